/- Texts of this work put together, their blanks and comments taken out: Owe1, Owe2. -/
import Derived.Test.YtcpnpoagpnkblaaGreatDoorONL
import Derived.Test.YtcpnpoagpnkblaaGreatDoorONK
set_option linter.unusedVariables false
set_option linter.unusedSimpArgs false
set_option maxHeartbeats 4000000
namespace Rf
open Go
section
def q44(buy:Bool)(p many:Int):Int:=max 0 (q1e buy p)*many
def owesS(s:StpV):Int:=q44 s.buy s.qe s.qty
def owesB(b:BlkV):Int:=q44 b.buy b.qe (sumZ b.qty)
def oweS(who:ByteArray)(s:StpV):Int:=if s.who=who then owesS s else 0
def oweB(who:ByteArray)(b:BlkV):Int:=if b.who=who then owesB b else 0
def oweV(ss:List StpV)(bs:List BlkV)(who:ByteArray):Int:=sumZ (ss.map (oweS who))+sumZ (bs.map (oweB who))
theorem qhd{f:Nat->Rat}{w:List Int}(h:∀i (hi:i<w.length),((-w[i]:Int):Rat)<=f i):∀(c i:Nat),i+c=w.length->((-sumZ (w.drop i):Int):Rat)<=sumI f i c
 |0,i,e=>by
  rw[show i=w.length from by omega,CP];exact Fo
 |c+1,i,e=>by
  have h1:=h i (by omega);have h2:=qhd h c (i+1) (by omega);rw[AY (show i<w.length from by omega),show sumZ (w[i]::w.drop (i+1))=w[i]+sumZ (w.drop (i+1)) from rfl,Int.neg_add,CB];show _<=f i+sumI f (i+1) c
  grind
theorem qle{f:Nat->Rat}:∀(c i:Nat),sumI f (i+1) c=sumI (λj=>f (j+1)) i c
 |0,_=>rfl
 |c+1,i=>by
  show f (i+1)+sumI f (i+1+1) c=f (i+1)+sumI (λj=>f (j+1)) (i+1) c;rw[qle c (i+1)]
theorem qlf:∀l:List Int,sumI (λj=>((l.getD j 0:Int):Rat)) 0 l.length=((sumZ l:Int):Rat)
 |[]=>rfl
 |z::l=>by
  show((z:Int):Rat)+sumI (λj=>(((z::l).getD j 0:Int):Rat)) (0+1) l.length=((z+sumZ l:Int):Rat);rw[qle,CB,<- qlf l];rfl
theorem qdq:∀ {l:List Int},(∀z,z∈l->0<=z)->0<=sumZ l
 |[],_=>Int.le_refl _
 |z::l,h=>by
  have h1:=h z (AF ..);have h2:=qdq (l:=l) λy hy=>h y (AA _ hy);show 0<=z+sumZ l;omega
theorem qg6{B:Int}:∀ {l:List Int},(∀z,z∈l->z<=B)->sumZ l<=B*l.length
 |[],_=>by show(0:Int)<=B*0;omega
 |z::l,h=>by
  have h1:=h z (AF ..);have h2:=qg6 (l:=l) λy hy=>h y (AA _ hy);show z+sumZ l<=_;rw[Aq,CE,Int.mul_add];omega
theorem qlg{x p c m q:Rat}(x0:0<=x)(xq:x<=q)(m0:0<=m)(cm:c<=m)(h:0<x->p<=c):x*p<=m*q:=by
 by_cases c0:0<x
 ·have h1:=h c0;have a:=DQ x0 (show 0<=m-p by grind);have b:=DQ m0 (show 0<=q-x by grind)
  grind
 ·have e:x=0:=by grind
  subst e;have:=DQ m0 xq
  grind
theorem bd_round{q:Rat}{k:Nat}(h:Bd k q):Bd (k+2) ((q1x q:Int):Rat):=Bd.int (k:=k+2) (qeb h) (by omega)
theorem round_ge{q:Rat}{z:Int}(h:(z:Rat)<=q):z<=q1x q:=by
 obtain⟨_,h2⟩:=qpb q;have:((2*z-1:Int):Rat)<=((2*q1x q:Int):Rat):=by
  rw[Rat.intCast_sub,DK,DK,show((2:Int):Rat)=2 from rfl,show((1:Int):Rat)=1 from rfl]
  grind
 have:=Dr.1 this;omega
section
variable {g:q10} {ss:List StpV} {bs:List BlkV} {r:ResV}
theorem chk_more(h:chkV g ss bs r=0):q4b g ss r=true/\q4l ss r=true/\q5o bs r=true:=by
 unfold chkV at h;cases h1:q4b g ss r with
 |false=>rw[h1]at h;simp only[AW]at h;repeat (first | (exact absurd h (by decide)) | split at h)
 |true =>
  cases h2:q4l ss r with
  |false=>rw[h2]at h;simp only[AW]at h;repeat (first | (exact absurd h (by decide)) | split at h)
  |true =>
   cases h3:q5o bs r with
   |false=>rw[h3]at h;simp only[AW]at h;repeat (first | (exact absurd h (by decide)) | split at h)
   |true=>exact⟨rfl,rfl,rfl⟩
theorem qlh(p:Int):(0:Rat)<=((max 0 p:Int):Rat)/\(p:Rat)<=((max 0 p:Int):Rat) :=
 ⟨Dr.2 (show(0:Int)<=max 0 p by omega),Dr.2 (by omega)⟩
theorem val_stp(hs:q37 g ss bs r)(hr:q1u r=true)(hb:q4b g ss r=true)(ht:q4l ss r=true)(who:ByteArray){i:Nat}(hi:i<ss.length):((-oweS who ss[i]:Int):Rat)<=valS r who ss i:=by
 obtain⟨o1,o2,o3⟩:=q6p hs.ord;have hst:=o2 _ (Ah hi);unfold q3e at hst;simp only[Ai,q5q]at hst;unfold valS oweS;rw[Ag hi];simp only;by_cases c:ss[i].who=who
 ·rw[if_pos c,if_pos c,prP_at hs hr];unfold q4b at hb;rw[Ai]at hb;have h1:=Au.1 hb.1 i (by rw[BT];omega);unfold inR at h1;rw[q2t hi,Ai,As,As]at h1;unfold q4l at ht;have h2:=Au.1 ht i (by rw[BT];omega);unfold q8c at h2;rw[Ag hi]at h2;simp only[Ai,Ch,Bool.and_eq_false_iff,Fq]at h2;have h3:=h2.1;unfold owesS q44;rw[CS,DK];obtain⟨m0,m1⟩:=qlh (q1e ss[i].buy ss[i].qe);have x0:(0:Rat)<=r.xAt i:=h1.1;have x1:=h1.2;clear h1 h2;generalize ((max 0 (q1e ss[i].buy ss[i].qe):Int):Rat)=m at m0 m1 ⊢;cases hbuy:ss[i].buy with
  |true =>
   rw[hbuy]at h3 m1;rw[Ac,Fq]at h3;have k:=qlg x0 x1 m0 m1 (p:=r.pAt ss[i].hour.toNat ss[i].zone.toNat) λq=>by
    rcases h3 with u | u
    ·exact absurd q u
    ·show r.pAt ss[i].hour.toNat ss[i].zone.toNat<=(ss[i].qe:Rat)
     grind
   show _≤-(r.xAt i*r.pAt ss[i].hour.toNat ss[i].zone.toNat)
   grind
  |false =>
   rw[hbuy]at h3 m1;rw[Ab,Fq]at h3;have k:=qlg x0 x1 m0 m1 (p:=-r.pAt ss[i].hour.toNat ss[i].zone.toNat) λq=>by
    rcases h3 with u | u
    ·exact absurd q u
    ·show -r.pAt ss[i].hour.toNat ss[i].zone.toNat<=((-ss[i].qe:Int):Rat);rw[CS]
     grind
   show _<=r.xAt i*r.pAt ss[i].hour.toNat ss[i].zone.toNat
   grind
 ·rw[if_neg c,if_neg c];exact Fo
theorem val_blk(hs:q37 g ss bs r)(hr:q1u r=true)(hb:q5o bs r=true)(who:ByteArray){i:Nat}(hi:i<bs.length):((-oweB who bs[i]:Int):Rat)<=valB r who bs i:=by
 obtain⟨o1,o2,o3⟩:=q6p hs.ord;have hst:=o3 _ (Ah hi);unfold q33 at hst;simp only[Ai,q5q,As]at hst;have hq0:∀z,z∈bs[i].qty->0<=z:=λz hz=>(q5q.1 (Au.1 hst.1.2 z hz)).1;have hQ:=qdq hq0;have hQ':(0:Rat)<=((sumZ bs[i].qty:Int):Rat):=Dr.2 hQ;obtain⟨m0,m1⟩:=qlh (q1e bs[i].buy bs[i].qe);have hmQ:=DQ m0 hQ';have hx:i<r.accept.length:=by rw[hs.ac];exact hi
 unfold valB oweB;rw[Ag hi];simp only;by_cases c:bs[i].who=who
 ·rw[if_pos c,if_pos c];unfold owesB q44;rw[CS,DK];by_cases ca:r.accept.getD i false=true
  ·rw[if_pos ca];unfold q5o at hb;have h1:=Au.1 hb i (by rw[BT];omega);rw[q2t hx]at ca;rw[Ag hi,Ag hx,ca,As]at h1;have e1:qax bs[i] r=sumI (λh=>r.pAt h bs[i].zone.toNat*((bs[i].qty.getD h 0:Int):Rat)) 0 bs[i].qty.length-((sumZ bs[i].qty:Int):Rat)*(bs[i].qe:Rat):=by
    unfold qax;rw[qje,qge (g:=λh=>r.pAt h bs[i].zone.toNat*((bs[i].qty.getD h 0:Int):Rat)+-(((bs[i].qty.getD h 0:Int):Rat)*(bs[i].qe:Rat))) bs[i].qty.length 0 λj _ _=>by grind];rw[qkh,qgf,qki,qlf]
    grind
   have e2:sumI (valQ r bs[i]) 0 bs[i].qty.length=sgnQ bs[i].buy (sumI (λh=>r.pAt h bs[i].zone.toNat*((bs[i].qty.getD h 0:Int):Rat)) 0 bs[i].qty.length):=by
    rw[qge (g:=λh=>sgnQ bs[i].buy (r.pAt h bs[i].zone.toNat*((bs[i].qty.getD h 0:Int):Rat))) bs[i].qty.length 0 λj _ hj=>by
     unfold valQ;rw[prP_at hs hr]
     rfl]
    cases bs[i].buy with
    |true=>exact qgf ..
    |false=>rfl
   rw[e2];unfold q5p at h1;rw[e1]at h1;generalize sumI (λh=>r.pAt h bs[i].zone.toNat*((bs[i].qty.getD h 0:Int):Rat)) 0 bs[i].qty.length=S at h1 ⊢;generalize ((sumZ bs[i].qty:Int):Rat)=Q at h1 hQ' hmQ ⊢;generalize ((max 0 (q1e bs[i].buy bs[i].qe):Int):Rat)=m at m0 m1 hmQ ⊢;have hk:=DQ (show 0<=m-((q1e bs[i].buy bs[i].qe:Int):Rat) by grind) hQ';cases hbuy:bs[i].buy with
   |true =>
    rw[hbuy]at h1 hk;rw[Ac]at h1;rw[show q1e true bs[i].qe=bs[i].qe from rfl]at hk;show _≤-S
    grind
   |false =>
    rw[hbuy]at h1 hk;rw[Ab]at h1;rw[show q1e false bs[i].qe=-bs[i].qe from rfl,CS]at hk;show _<=S
    grind
  ·rw[if_neg ca]
   grind
 ·rw[if_neg c,if_neg c];exact Fo
theorem qq3(h:chkV g ss bs r=0)(who:ByteArray):((-oweV ss bs who:Int):Rat)<=amtV ss bs r who:=by
 obtain⟨hs,hr⟩:=qbk h;obtain⟨hb,ht,hg⟩:=chk_more h;have h1:=qhd (f:=valS r who ss) (w:=ss.map (oweS who)) (λi hi=>by rw[Eu];rw[Aa]at hi;exact val_stp hs hr hb ht who hi) ss.length 0 (by rw[Aa];omega);have h2:=qhd (f:=valB r who bs) (w:=bs.map (oweB who)) (λi hi=>by rw[Eu];rw[Aa]at hi;exact val_blk hs hr hg who hi) bs.length 0 (by rw[Aa];omega);rw[Av]at h1 h2;unfold amtV oweV;rw[Int.neg_add,CB]
 grind
theorem qg5{buy:Bool}{p m:Int}(h1:-100000<=p)(h2:p<=100000)(m0:0<=m)(m1:m<=3000):0<=q44 buy p m/\q44 buy p m<=300000000:=by
 unfold q44;have a:0<=max 0 (q1e buy p)/\max 0 (q1e buy p)<=100000:=by
  unfold q1e;cases buy
  ·rw[Ab];omega
  ·rw[Ac];omega
 generalize max 0 (q1e buy p)=w at a;have:=Int.mul_nonneg a.1 m0;have:=Int.mul_le_mul a.2 m1 m0 (by omega);omega
end
end
section
theorem max_if(x:Int):(if 0<x then x else 0)=max 0 x:=by omega
theorem wp_neg{p:Int}(h1:-100000<=p)(h2:p<=100000):w6 (0-p)=-p:=by
 rw[qk];omega
theorem qjv{b:Bool}{p m:Int}(h1:-100000<=p)(h2:p<=100000)(m0:0<=m)(m1:m<=3000) :
  (bif(!b)then some [FV.int .i64 (w6 ((if 0<(w6 (0-p))then(w6 (0-p))else 0)*m))]else some [.int .i64 (w6 ((if 0<p then p else 0)*m))])=some [iF (q44 b p m)]:=by
 have h:=qg5 (buy:=b) h1 h2 m0 m1;rw[wp_neg h1 h2,max_if,max_if];cases b with
 |true =>
  rw[Am,Ab,qk (x:=max 0 p*m) (by have:q44 true p m=max 0 p*m:=rfl;omega) (by have:q44 true p m=max 0 p*m:=rfl;omega)];rfl
 |false =>
  rw[AV,Ac,qk (x:=max 0 (-p)*m) (by have:q44 false p m=max 0 (-p)*m:=rfl;omega) (by have:q44 false p m=max 0 (-p)*m:=rfl;omega)];rfl
section
variable {g:q10} {ss:List StpV} {bs:List BlkV} {r:ResV} {n:Nat}
theorem owes_stp{who:ByteArray}{a b c p q:Int}{d:Bool}(h1:-100000<=p)(h2:p<=100000)(m0:0<=q)(m1:q<=3000) :
  evF EnD (n+1) 30 [iF 2,iF 0,iF 0,.str who,iF a,iF b,iF c,.bool d,iF q,iF p,.str { data:=#[] },iF 0,iF 0,.bool false,iF 0,.list 1 [],iF 0,iF 0]=some [iF (q44 d p q)]:=by
 rw[qjw,show((2:Int)==2)=true from rfl,Ac];exact qjv h1 h2 m0 m1
theorem sumZ_drop{Q:List Int}{i:Nat}(hi:i<Q.length):sumZ (Q.drop i)=Q[i]+sumZ (Q.drop (i+1)):=by rw[AY hi];rfl
theorem owes_blk{who:ByteArray}{a b p e f:Int}{d:Bool}{Q:List Int}(h1:-100000<=p)(h2:p<=100000)(hQ:∀z,z∈Q->0<=z/\z<=1000)(hl:Q.length<=3)(hn:10<=n) :
  evF EnD (n+1) 30 [iF 3,iF 0,iF 0,.str { data:=#[] },iF 0,iF 0,iF 0,.bool false,iF 0,iF 0,.str who,iF a,iF b,.bool d,iF p,.list 1 (Q.map iF),iF e,iF f]=some [iF (q44 d p (sumZ Q))]:=by
 have lp:∀(c i m:Nat) (s:Int),i+c=Q.length->c<m->0<=s->s<=1000*i->q9m.l13 n [] m [iF 3,iF 0,iF 0,.str { data:=#[] },iF 0,iF 0,iF 0,.bool false,iF 0,iF 0,.str who,iF a,iF b,.bool d,iF p,.list 1 (Q.map iF),iF e,iF f,iF p,iF s,.bool d,iF i]=some [iF (q44 d p (s+sumZ (Q.drop i)))]:=by
  intro c
  induction c with
  |zero =>
   intro i m s hi hm s0 s1;obtain⟨m,rfl⟩:=qSx m;rw[q9m.q45,Aa,Ad,Ab,show i=Q.length from by omega,CP];rw[show s+sumZ []=s from by show s+0=s;omega];exact qjv h1 h2 s0 (by omega)
  |succ c ih =>
   intro i m s hi hm s0 s1;obtain⟨m,rfl⟩:=qSx m;have hil:i<Q.length:=by omega
   obtain⟨z0,z1⟩:=hQ _ (Ah hil);rw[q9m.q45,Aa,Af,Ac,q9 hil];simp only[q4j hil,rr];rw[qc,qk,ih (i+1) m (s+Q[i]) (by omega) (by omega) (by omega) (by omega),sumZ_drop hil,EY]
 rw[qjw,show((3:Int)==2)=false from rfl,Ab,show((3:Int)==3)=true from rfl,Ac];have:=lp Q.length 0 n 0 (by omega) (by omega) (by omega) (by omega);rw[Av,Int.zero_add]at this;exact this
theorem stp_pq(h:q28 g ss bs=true){i:Nat}(hi:i<ss.length):-100000<=ss[i].qe/\ss[i].qe<=100000/\0<=ss[i].qty/\ss[i].qty<=3000:=by
 obtain⟨o1,o2,o3⟩:=q6p h;have hst:=o2 _ (Ah hi);unfold q3e at hst;unfold q36 at o1;simp only[Ai,q5q,As]at hst o1;omega
theorem blk_pq(h:q28 g ss bs=true){i:Nat}(hi:i<bs.length):-100000<=bs[i].qe/\bs[i].qe<=100000/\(∀z,z∈bs[i].qty->0<=z/\z<=1000)/\bs[i].qty.length<=3:=by
 obtain⟨o1,o2,o3⟩:=q6p h;have hst:=o3 _ (Ah hi);unfold q33 at hst;unfold q36 at o1;simp only[Ai,q5q,As]at hst o1;refine⟨by omega,by omega,λz hz=>q5q.1 (Au.1 hst.1.2 z hz),by omega⟩
theorem sum_pq{Q:List Int}(h:∀z,z∈Q->0<=z/\z<=1000)(hl:Q.length<=3):0<=sumZ Q/\sumZ Q<=3000:=by
 have h1:=qdq λz hz=>(h z hz).1;have h2:=qg6 λz hz=>(h z hz).2;omega
theorem qjx{α:Type}{f:α->Int}{l:List α}{k:Nat}(h:k<l.length):sumZ ((l.drop k).map f)=f l[k]+sumZ ((l.drop (k+1)).map f):=by rw[AY h];rfl
theorem oweS_bd(h:q28 g ss bs=true)(who:ByteArray){k:Nat}(hk:k<ss.length):0<=oweS who ss[k]/\oweS who ss[k]<=300000000:=by
 obtain⟨p1,p2,p3,p4⟩:=stp_pq h hk;unfold oweS;split
 ·exact qg5 p1 p2 p3 p4
 ·omega
theorem oweB_bd(h:q28 g ss bs=true)(who:ByteArray){k:Nat}(hk:k<bs.length):0<=oweB who bs[k]/\oweB who bs[k]<=300000000:=by
 obtain⟨p1,p2,p3,p4⟩:=blk_pq h hk;obtain⟨q1,q2⟩:=sum_pq p3 p4;unfold oweB;split
 ·exact qg5 p1 p2 q1 q2
 ·omega
theorem o13_loop(h:q28 g ss bs=true){m0:Nat}{N:List Txt}{E:List FV}{e:Int}{i:Nat}(hi:i<N.length):∀(c k m:Nat) (o:Int),k+c=ss.length->c<m->0<=o->o<=300000000*k ->
  q2e.l13 (n+9) [m0] m (cL g ss bs r [.list 2 E,iF e,.list 1 (N.map sF),iF i,iF o,iF k]) =
   q2e.l18 (n+9) [m0] (n+9) (cL g ss bs r [.list 2 E,iF e,.list 1 (N.map sF),iF i,iF (o+sumZ ((ss.drop k).map (oweS (txt N[i])))),iF 0]):=by
 obtain⟨l1,l2,l3,l4⟩:=qdr h;intro c
 induction c with
 |zero =>
  intro k m o hk hm o0 o1;obtain⟨m,rfl⟩:=qSx m;rw[q2e.q45,Aa,Ad,Ab,show k=ss.length from by omega,CP];rw[show o+sumZ (([]:List StpV).map (oweS (txt N[i])))=o from by show o+0=o;omega]
 |succ c ih =>
  intro k m o hk hm o0 o1;obtain⟨m,rfl⟩:=qSx m;have hkl:k<ss.length:=by omega
  obtain⟨p1,p2,p3,p4⟩:=stp_pq h hkl;obtain⟨w0,w1⟩:=oweS_bd h (txt N[i]) hkl;have ih':=ih (k+1) m (o+oweS (txt N[i]) ss[k]) (by omega) (by omega) (by omega) (by omega);rw[q2e.q45,Aa,Af,Ac,q9 hkl,Aa];simp only[q2z hkl,rr];rw[q9 hi];simp only[q50 hi,rr];rw[toList_eq,qjx hkl,<- EY,qc];unfold oweS at ih' w0 w1 ⊢;by_cases q:ss[k].who=txt N[i]
  ·rw[Af q,Ac,owes_stp (n:=n+8) p1 p2 p3 p4];rw[if_pos q]at ih' w0 w1 ⊢;unfold owesS at ih' w0 w1 ⊢;simp only[rr];rw[qk];exact ih'
  ·rw[Ad q,Ab];rw[if_neg q]at ih' ⊢;rw[Int.add_zero]at ih' ⊢;exact ih'
theorem o18_loop(h0:chkV g ss bs r=0)(hS:Sq ss bs r){m0:Nat}{N:List Txt}{E:List FV}{e:Int}{i:Nat}(hi:i<N.length)(hiN:i<1000000)(hn:2000<=n)
  (hE:e=0->i<E.length/\at' E i 1=some (sF (qu (cW ss bs r N[i])))):∀(c k m:Nat) (o:Int),k+c=bs.length->c<m->0<=o->o<=300000000*(32+k)->o+sumZ ((bs.drop k).map (oweB (txt N[i])))=oweV ss bs (txt N[i]) ->
  q2e.l18 (n+9) [m0] m (cL g ss bs r [.list 2 E,iF e,.list 1 (N.map sF),iF i,iF o,iF k]) =
   q2e.l9 (n+9) [] m0 (cL g ss bs r [.list 2 E,iF e,.list 1 (N.map sF),iF ((i+1:Nat):Int)]):=by
 obtain⟨hs,hr⟩:=qbk h0;obtain⟨l1,l2,l3,l4⟩:=qdr hs.ord;intro c
 induction c with
 |zero =>
  intro k m o hk hm o0 o1 ho;obtain⟨m,rfl⟩:=qSx m;obtain rfl:k=bs.length:=by omega
  rw[CP,show o+sumZ (([]:List BlkV).map (oweB (txt N[i])))=o from by show o+0=o;omega]at ho;have hb:=amt_bd2 hS hs hr (txt N[i]);have hge:=qq3 h0 (txt N[i]);rw[<- ho]at hge;have h31:=qq4 (n:=n+1) (who:=txt N[i]) hS (by omega);rw[qbl hs hr,Ac]at h31;have bo:Bd 64 ((-o:Int):Rat):=q9n;rw[q2e.q55,Aa,Ad,Ab,Aa,q9 hi];simp only[q50 hi,rr];rw[show evF EnD (n+9) 31 _=_ from h31];simp only[rr];rw[qds (n:=n+8) (qdt (amtV ss bs r (txt N[i]))) (by have:=hb.len;omega)];simp only[rr];rw[show((0:Int) !=0)=false from rfl,Ab,Ab,qk (x:=0-o),show(0:Int)-o=-o from by omega,x_of (n:=n+8)];simp only[rr];rw[show evF EnD (n+9) 32 _=_ from x_cmp (n:=n+8) (q:=amtV ss bs r (txt N[i])) (r:=((-o:Int):Rat)) (hb.mono (by omega)) (bo.mono (by omega)) (qb _) (qb _)];simp only[rr];rw[q3y,Ad (Ci.2 hge),Ab];by_cases ce:e=0
  ·obtain⟨e1,e2⟩:=hE ce;subst ce;have bz:Bd 200002 ((cW ss bs r N[i]:Int):Rat):=bd_round hb;have hzo:-o<=cW ss bs r N[i]:=round_ge hge;generalize cW ss bs r N[i]=z at e2 bz hzo;rw[show((0:Int)==0)=true from rfl,Ac,q9 e1];simp (disch:=omega) only[e2,rr];rw[show qu z=qx (z:Rat) from(qjy z).symm,qds (n:=n+8) (qdt (z:Rat)) (by have:=bz.len;omega)];simp only[rr];rw[show((0:Int) !=0)=false from rfl,Ab];rw[show evF EnD (n+9) 32 _=_ from x_cmp (n:=n+8) (q:=(z:Rat)) (r:=((-o:Int):Rat)) (bz.mono (by omega)) (bo.mono (by omega)) (qb _) (qb _)];simp only[rr];rw[q3y,Ad (Ci.2 (Dr.2 hzo)),Ab,qc]
  ·rw[show(e==0)=false from by rw[Bn];exact ce,Ab,qc]
 |succ c ih =>
  intro k m o hk hm o0 o1 ho;obtain⟨m,rfl⟩:=qSx m;have hkl:k<bs.length:=by omega
  obtain⟨p1,p2,p3,p4⟩:=blk_pq hs.ord hkl;obtain⟨w0,w1⟩:=oweB_bd hs.ord (txt N[i]) hkl;rw[qjx hkl,<- EY]at ho;have ih':=ih (k+1) m (o+oweB (txt N[i]) bs[k]) (by omega) (by omega) (by omega) (by omega) ho;rw[q2e.q55,Aa,Af,Ac,q9 hkl,Aa];simp only[q2g hkl,rr];rw[q9 hi];simp only[q50 hi,rr];rw[toList_eq,qc];unfold oweB at ih' w0 w1;by_cases q:bs[k].who=txt N[i]
  ·rw[Af q,Ac,owes_blk (n:=n+8) p1 p2 p3 p4 (by omega)];rw[if_pos q]at ih' w0 w1;unfold owesB at ih' w0 w1;simp only[rr];rw[qk];exact ih'
  ·rw[Ad q,Ab];rw[if_neg q,Int.add_zero]at ih';exact ih'
theorem o9_loop(h0:chkV g ss bs r=0)(hS:Sq ss bs r){N:List Txt}{E:List FV}{e:Int}(hN:N.length<=600)(hn:2000<=n)(hE:e=0->∀i (hi:i<N.length),i<E.length/\at' E i 1=some (sF (qu (cW ss bs r N[i])))):∀(c i m:Nat),i+c=N.length->c<m ->
  q2e.l9 (n+9) [] m (cL g ss bs r [.list 2 E,iF e,.list 1 (N.map sF),iF i])=some [.bool true]:=by
 obtain⟨hs,hr⟩:=qbk h0;obtain⟨l1,l2,l3,l4⟩:=qdr hs.ord;intro c
 induction c with
 |zero =>
  intro i m hi hm;obtain⟨m,rfl⟩:=qSx m;rw[q2e.q3r,Aa,Ad,Ab]
 |succ c ih =>
  intro i m hi hm;obtain⟨m,rfl⟩:=qSx m;have hil:i<N.length:=by omega
  have hsum:0<=sumZ (ss.map (oweS (txt N[i])))/\sumZ (ss.map (oweS (txt N[i])))<=300000000*32:=by
   have hb:∀z,z∈ss.map (oweS (txt N[i]))->0<=z/\z<=300000000:=λz hz=>by
    obtain⟨s,hs1,rfl⟩:=BD.1 hz;obtain⟨k,hk,rfl⟩:=Du.1 hs1;exact oweS_bd hs.ord _ hk
   have h1:=qdq λz hz=>(hb z hz).1;have h2:=qg6 λz hz=>(hb z hz).2;rw[Aa]at h2;omega
  rw[q2e.q3r,Aa,Af,Ac];have h13:=o13_loop (n:=n) (g:=g) (r:=r) (m0:=m) (E:=E) (e:=e) hs.ord hil ss.length 0 (n+9) 0 (by omega) (by omega) (by omega) (by omega);refine BQ h13 ?_;rw[Av,Int.zero_add];have h18:=o18_loop (n:=n) (m0:=m) (E:=E) (e:=e) h0 hS hil (by omega) hn (λq=>hE q i hil) bs.length 0 (n+9) _ (by omega) (by omega) hsum.1 (by omega) (by rw[Av];rfl);exact h18.trans (ih (i+1) m (by omega) (by omega))
theorem owes_run(h:Sm g ss bs r)(hS:Sq ss bs r)(hws:∀s,s∈ss->s.who.size<=1000000)(hwb:∀b,b∈bs->b.who.size<=1000000)(hn:300000<=n)
  (hv:evF EnD (n+10) 29 (cL g ss bs r [])=some [.bool false]):evF EnD (n+11) 9 (cL g ss bs r [])=some [.bool true]:=by
 have p5:=qq5 (n:=n) h hS hws hwb (by omega);have p6:=qq6 (n:=n) h hS hws hwb hn;obtain⟨_,hlen⟩:=qjz hS hws hwb;have p17:evF EnD (n+10) 17 (cL g ss bs r [])=some [iF (chkV g ss bs r)]:=by
  have:evF EnD (n+10) 17 (cL g ss bs r [])=limO EnB 17 (cL g ss bs r []):=by kernel_rfl
  rw[this];refine q1j ⟨101,λn hn=>?_⟩;obtain⟨n,rfl⟩:∃k,n=k+101:=⟨n-101,by omega⟩;exact qju h
 rw[qk0];refine BQ (congrArg (λo=>Option.bind o _) hv) ?_;simp only[rr];refine BQ (congrArg (λo=>Option.bind o _) p17) ?_;simp only[rr];by_cases hc:chkV g ss bs r=0
 ·rw[show(chkV g ss bs r !=0)=false from by rw[hc];rfl,Ab];refine BQ (congrArg (λo=>Option.bind o _) p5) ?_;obtain⟨E,e,q,hE⟩:∃(E:List FV) (e:Int),qak g ss bs r=[.list 2 E,iF e]/\(e=0->∀i (hi:i<(q26 ss bs).length),i<E.length/\at' E i 1=some (sF (qu (cW ss bs r (q26 ss bs)[i])))):=by
   unfold qak;cases(decide (chkV g ss bs r=0)&&(q26 ss bs).all λt=>q2x (txt t))with
   |false=>exact⟨[],1,rfl,λq=>absurd q (by decide)⟩
   |true =>
    refine⟨_,_,rfl,λ_ i hi=>?_⟩;unfold qdu;refine⟨by simp only[Bb,Aa];omega,?_⟩;unfold at';rw[Ap,Da (by rw[Aa];exact hi),Bq,Ag hi];rfl
  rw[q]at p6 ⊢;simp only[rr];refine BQ (congrArg (λo=>Option.bind o _) p6) ?_;simp only[rr];rw[show(e !=e)=false from by rw[Dq],Ab,qk1 (n:=n+9) hS.ssl hS.bsl (by omega)];simp only[rr];exact o9_loop (n:=n+1) hc hS hlen (by omega) hE (q26 ss bs).length 0 (n+10) (by omega) (by omega)
 ·rw[show(chkV g ss bs r !=0)=true from by rw[CG];exact hc,Ac]
end
theorem qq7 (L:List FV) (h:All2 Fits (.int .i64::.int .i64::.lst true 24 [.int .i64,.int .i64,.int .i64]::.int .i64::.int .i64::.lst true 64 [.str,.int .i64,.int .i64,.int .i64,.bool,.int .i64,.int .i64] ::
  .lst true 88 [.str,.int .i64,.int .i64,.bool,.int .i64,.lst false 8 [.int .i64],.int .i64,.int .i64]::.lst false 1 [.bool]::.lst false 16 [.str]::.lst false 24 [.lst false 16 [.str]]::.lst false 24 [.lst false 16 [.str]]::.str::.str::.bool::.int .i64::[]) L) :
  ∃n,evF EnD n 9 L=some [.bool true]:=by
 obtain⟨g,ss,bs,r,rest,rfl,hS,hz,h⟩:=case_of20 h;obtain rfl:=h.q88;obtain⟨b,hb,hsm⟩:=qq8 hS hz (Ak _);cases b with
 |false =>
  obtain⟨m1,m2,m3,m4⟩:=hsm rfl;exact⟨9000000000000000+2+11,owes_run m1 m2 m3 m4 (by omega) (by have:=hb 10;exact this)⟩
 |true =>
  refine⟨9000000000000000+2+1,?_⟩;have:=hb 0;rw[qk0];refine BQ (congrArg (λo=>Option.bind o _) this) ?_;simp only[rr]
end
end Rf
