/- Texts of this work put together, their blanks and comments taken out: Sum20, Sum21, Sum22, Sum23, Sum24. -/
import Derived.Test.YtcpnpoagpnkblaaGreatDoorSNK
set_option linter.unusedVariables false
set_option linter.unusedSimpArgs false
set_option maxHeartbeats 4000000
namespace Rf
open Go
section
theorem qg1{f:Nat->Nat->Rat}:∀(c i d j:Nat),sumI (λa=>sumI (f a) j d) i c=sumI (λb=>sumI (λa=>f a b) i c) j d
 |0,i,d,j=>by
  show(0:Rat)=_;rw[show(λb=>sumI (λa=>f a b) i 0)=λ_=>(0:Rat) from rfl,qbe]
 |c+1,i,d,j=>by
  show sumI (f i) j d+sumI (λa=>sumI (f a) j d) (i+1) c=sumI (λb=>f i b+sumI (λa=>f a b) (i+1) c) j d;rw[qg1 c (i+1) d j,<- qab]
theorem qfe{f:Nat->Rat}{c i:Nat}(h:∀j,i<=j->j<i+c->f j=0):sumI f i c=0:=by
 rw[q3f (g:=λ_=>0) c i h,qbe]
theorem qaa{v:Rat}{a:Nat}:∀(c i:Nat),i<=a->a<i+c->sumI (λk=>if k=a then v else 0) i c=v
 |0,i,h1,h2=>by omega
 |c+1,i,h1,h2=>by
  show(if i=a then v else 0)+sumI (λk=>if k=a then v else 0) (i+1) c=v;by_cases e:i=a
  ·rw[if_pos e,qfe λj h _=>if_neg (by omega)]
   grind
  ·rw[if_neg e,qaa c (i+1) (by omega) (by omega)]
   grind
theorem qg2{f:Nat->Rat}:∀(c i:Nat) (a:Rat),(List.range' i c).foldl (λn k=>n+f k) a=a+sumI f i c
 |0,i,a=>by
  show a=a+0
  grind
 |c+1,i,a=>by
  rw[BL,Bf,qg2 c (i+1)];show a+f i+sumI f (i+1) c=a+(f i+sumI f (i+1) c)
  grind
theorem qju{f:Nat->Rat}:∀(c i:Nat),(∀j,i<=j->j<i+c->0<=f j)->0<=sumI f i c
 |0,_,_=>Rat.le_refl
 |c+1,i,h=>by
  have h1:=h i (by omega) (by omega);have h2:=qju c (i+1) λj a b=>h j (by omega) (by omega);show 0<=f i+sumI f (i+1) c
  grind
noncomputable def sumN(f:Txt->Rat):List Txt->Rat
 |[]=>0
 |t::l=>f t+sumN f l
theorem qjt{f h:Txt->Rat}:∀l,sumN (λt=>f t+h t) l=sumN f l+sumN h l
 |[]=>by show(0:Rat)=0+0;grind
 |t::l=>by
  show f t+h t+sumN (λt=>f t+h t) l=f t+sumN f l+(h t+sumN h l);rw[qjt l]
  grind
theorem sumN_zero:∀l,sumN (λ_=>0) l=0
 |[]=>rfl
 |t::l=>by
  show 0+sumN (λ_=>0) l=0;rw[sumN_zero l]
  grind
theorem qfw{f:Txt->Nat->Rat}(c i:Nat):∀l,sumN (λt=>sumI (f t) i c) l=sumI (λk=>sumN (λt=>f t k) l) i c
 |[]=>by
  show(0:Rat)=_;rw[show(λk=>sumN (λt=>f t k) [])=λ_=>(0:Rat) from rfl,qbe]
 |t::l=>by
  show sumI (f t) i c+sumN (λt=>sumI (f t) i c) l=sumI (λk=>f t k+sumN (λt=>f t k) l) i c;rw[qfw c i l,<- qab]
theorem qjx{v:Rat}{w:Txt}:∀ {l:List Txt},w ∉ l->sumN (λt=>if w=t then v else 0) l=0
 |[],_=>rfl
 |t::l,h=>by
  rw[Ar,not_or]at h;show(if w=t then v else 0)+sumN (λt=>if w=t then v else 0) l=0;rw[if_neg h.1,qjx h.2]
  grind
theorem qfx{v:Rat}{w:Txt}:∀ {l:List Txt},l.Pairwise (·<·)->w∈l->sumN (λt=>if w=t then v else 0) l=v
 |[],_,h=>absurd h (by simp)
 |t::l,hp,h=>by
  have hp':=Do.1 hp;show(if w=t then v else 0)+sumN (λt=>if w=t then v else 0) l=v;by_cases e:w=t
  ·subst e;rw[if_pos rfl,qjx λhw=>qdk _ (hp'.1 w hw)]
   grind
  ·rw[if_neg e,qfx hp'.2 ((Ar.1 h).resolve_left e)]
   grind
theorem qjv(q:Rat):2*(((q1a q:Int):Rat)-q)<=1/\-1<=2*(((q1a q:Int):Rat)-q):=by
 have e:=qg3 q;obtain⟨r0,r1⟩:=rest_bd q;have p:((0:Int):Rat)<((q.den:Int):Rat):=CY.2 (den_pos q);have c0:((0:Int):Rat)<=((q1z q:Int):Rat):=DJ.2 r0;have hx:=half_gt q;have hy:=half_lt q;have one:((1:Int):Rat)=1:=rfl;have two:((2:Int):Rat)=2:=rfl;have zero:((0:Int):Rat)=0:=rfl;rw[one,two]at hx hy;rw[zero]at p c0;have f0:(0:Rat)<=q-(q17 q:Rat):=by
  refine DK λh=>?_;have h:q-(q17 q:Rat)<0:=Cf.1 h;have h2:=(Ei (c:=((q.den:Int):Rat)) p).2 h;rw[e]at h2
  grind
 have f1:q-(q17 q:Rat)<1:=by
  refine(Ei (c:=((q.den:Int):Rat)) p).1 ?_;rw[e];have h3:((q1z q:Int):Rat)<((q.den:Int):Rat):=CY.2 r1
  grind
 unfold q1a;split
 ·rename_i hc;have hn:¬ q1z q+q1z q<(q.den:Int):=by omega
  have h4:¬ (q-(q17 q:Rat))*2<1:=λh=>hn (hy.1 h);rw[BA,one]
  grind
 ·rename_i hc;have hn:¬ (q.den:Int)<q1z q+q1z q:=λh=>hc (.inl h);have h4:¬ 1<(q-(q17 q:Rat))*2:=λh=>hn (hx.1 h)
  grind
noncomputable def sHZ(H Z:Nat)(f:Nat->Nat->Rat):Rat:=sumI (λh=>sumI (f h) 0 Z) 0 H
theorem qbd{H Z:Nat}{f k:Nat->Nat->Rat}(e:∀h z,h<H->z<Z->f h z=k h z):sHZ H Z f=sHZ H Z k :=
 q3f H 0 λh _ h2=>q3f Z 0 λz _ z2=>e h z (by omega) (by omega)
theorem sHZ_add{H Z:Nat}{f k:Nat->Nat->Rat}:sHZ H Z (λh z=>f h z+k h z)=sHZ H Z f+sHZ H Z k:=by
 unfold sHZ;rw[<- qab];exact q3f H 0 λh _ _=>qab Z 0
theorem qfg{H Z c:Nat}{f:Nat->Nat->Nat->Rat}:sHZ H Z (λh z=>sumI (f h z) 0 c)=sumI (λi=>sHZ H Z λh z=>f h z i) 0 c:=by
 unfold sHZ;rw[q3f (f:=λh=>sumI (λz=>sumI (f h z) 0 c) 0 Z) (g:=λh=>sumI (λi=>sumI (λz=>f h z i) 0 Z) 0 c) H 0 λh _ _=>qg1 Z 0 c 0];exact qg1 H 0 c 0
theorem sHZ_one{H Z a b:Nat}{v:Rat}(ha:a<H)(hb:b<Z):sHZ H Z (λh z=>if h=a/\z=b then v else 0)=v:=by
 unfold sHZ
 rw[q3f (g:=λh=>if h=a then v else 0) H 0 λh _ _=>by
  by_cases e:h=a
  ·rw[if_pos e,q3f (g:=λz=>if z=b then v else 0) Z 0 λz _ _=>by simp[e]];exact qaa Z 0 (by omega) (by omega)
  ·rw[if_neg e]
   exact qfe λz _ _=>if_neg λq=>e q.1]
 exact qaa H 0 (by omega) (by omega)
theorem qjy{f:Nat->Rat}:∀(c i:Nat),sumI f i (c+1)=sumI f i c+f (i+c)
 |0,i=>by
  show f i+0=0+f (i+0);rw[Ax]
  grind
 |c+1,i=>by
  show f i+sumI f (i+1) (c+1)=f i+sumI f (i+1) c+f (i+(c+1));rw[qjy c (i+1),show i+1+c=i+(c+1) from by omega]
  grind
section
variable {g:q10} {ss:List StpV} {bs:List BlkV} {r:ResV}
noncomputable def sxV(ss:List StpV)(r:ResV)(h z i:Nat):Rat:=match ss[i]? with
 |some s=>if s.hour=(h:Int)/\s.zone=(z:Int)then sgnQ s.buy (r.xAt i)else 0
 |none=>0
noncomputable def nxV(bs:List BlkV)(ac:List Bool)(h z j:Nat):Rat:=match bs[j]?,ac[j]? with
 |some b,some true=>if b.zone=(z:Int)/\h<b.qty.length then sgnQ b.buy ((b.qty.getD h 0:Int):Rat)else 0
 |_,_=>0
noncomputable def lxV(ls:List qz)(r:ResV)(h z k:Nat):Rat:=match ls[k]? with
 |some l=>(if l.src=(z:Int)then r.fAt h k else 0)-(if l.dst=(z:Int)then r.fAt h k else 0)
 |none=>0
theorem net_sum(h z:Nat):∀n,((netAt bs r.accept h z n:Int):Rat)=sumI (nxV bs r.accept h z) 0 n
 |0=>rfl
 |n+1=>by
  rw[qjy n 0,AG,<- net_sum h z n];show((netAt bs r.accept h z n+_:Int):Rat)=_;rw[BA];congr 1;unfold nxV;cases hb:bs[n]? with
  |none=>rfl
  |some b =>
   cases ha:r.accept[n]? with
   |none=>rfl
   |some a =>
    cases a with
    |false=>rfl
    |true =>
     simp only;by_cases hc:b.zone=(z:Int)/\h<b.qty.length
     ·rw[if_pos hc,if_pos hc];cases b.buy with
      |true=>exact CR _
      |false=>rfl
     ·rw[if_neg hc,if_neg hc];rfl
theorem zone_sum(h z:Nat):q3u ss bs r h z=sumI (nxV bs r.accept h z) 0 (min bs.length r.accept.length)+sumI (sxV ss r h z) 0 ss.length:=by
 unfold q3u netV
 rw[net_sum,show q7h ss r h z=λn i=>n+sxV ss r h z i from by
  funext n i;unfold q7h sxV;cases hs:ss[i]? with
  |none=>show n=n+0;grind
  |some s =>
   simp only;by_cases hc:s.hour=(h:Int)/\s.zone=(z:Int)
   ·rw[if_pos hc,if_pos hc];cases s.buy with
    |true=>show n-r.xAt i=n+-r.xAt i;grind
    |false=>rfl
   ·rw[if_neg hc,if_neg hc];grind,qg2]
theorem exp_sum(h z:Nat):expV g.lines r h z=sumI (lxV g.lines r h z) 0 g.lines.length:=by
 unfold expV
 rw[show q5e g.lines r h z=λn i=>n+lxV g.lines r h z i from by
  funext n i;unfold q5e lxV;cases hs:g.lines[i]? with
  |none=>show n=n+0;grind
  |some l =>
   simp only
   by_cases h1:l.src=(z:Int) <;> by_cases h2:l.dst=(z:Int) <;> simp only[h1,h2,AX,BH] <;> grind,qg2]
 grind
end
end
section
section
variable {g:q10} {ss:List StpV} {bs:List BlkV} {r:ResV}
theorem qa9(hs:q2e g ss bs r)(hr:q1f r=true){h z:Int}(h0:0<=h)(h1:h<g.qd)(z0:0<=z)(z1:z<g.qa):prP r h z=r.pAt h.toNat z.toNat:=by
 have:=ok_pr hs hr h0 h1 z0 z1;unfold pOk at this;rw[Ai]at this;unfold prP;rw[if_pos this.1]
theorem qj5(b:Bool)(p x:Rat):p*sgnQ b x=sgnQ b (x*p):=by
 cases b with
 |true=>show p*-x=-(x*p);grind
 |false=>show p*x=x*p;grind
noncomputable def stT(ss:List StpV)(r:ResV)(i:Nat):Rat:=match ss[i]? with
 |some s=>sgnQ s.buy (r.xAt i*prP r s.hour s.zone)
 |none=>0
noncomputable def blT(bs:List BlkV)(r:ResV)(j:Nat):Rat:=match bs[j]? with
 |some b=>if r.accept.getD j false=true then sumI (valQ r b) 0 b.qty.length else 0
 |none=>0
theorem st_part(hs:q2e g ss bs r)(hr:q1f r=true){i:Nat}(hi:i<ss.length):sHZ g.qd.toNat g.qa.toNat (λh z=>r.pAt h z*sxV ss r h z i)=stT ss r i:=by
 obtain⟨o1,o2,o3⟩:=q6c hs.ord;have hst:=o2 _ (Ah hi);unfold q3j at hst;simp only[Ai,q7j]at hst;have hp:=qa9 hs hr (h:=ss[i].hour) (z:=ss[i].zone) (by omega) (by omega) (by omega) (by omega);rw[qbd (k:=λh z=>if h=ss[i].hour.toNat/\z=ss[i].zone.toNat then stT ss r i else 0) λh z hh hz=>?_]
 ·exact sHZ_one (by omega) (by omega)
 ·unfold sxV stT;rw[Ag hi];simp only;by_cases c:ss[i].hour=(h:Int)/\ss[i].zone=(z:Int)
  ·rw[if_pos c,if_pos (by omega),qj5,hp,show ss[i].hour.toNat=h from by omega,show ss[i].zone.toNat=z from by omega]
  ·rw[if_neg c,if_neg (by omega)]
   grind
theorem bl_part(hs:q2e g ss bs r)(hr:q1f r=true){j:Nat}(hj:j<bs.length):sHZ g.qd.toNat g.qa.toNat (λh z=>r.pAt h z*nxV bs r.accept h z j)=blT bs r j:=by
 obtain⟨o1,o2,o3⟩:=q6c hs.ord;have hst:=o3 _ (Ah hj);unfold q3a at hst;simp only[Ai,q7j,As]at hst;have hx:j<r.accept.length:=by rw[hs.ac];exact hj
 have eb:blT bs r j=if r.accept[j]=true then sumI (valQ r bs[j]) 0 bs[j].qty.length else 0:=by
  unfold blT;rw[Ag hj,q2m hx]
 have en:∀h z,nxV bs r.accept h z j=if r.accept[j]=true then(if bs[j].zone=(z:Int)/\h<bs[j].qty.length then sgnQ bs[j].buy ((bs[j].qty.getD h 0:Int):Rat)else 0)else 0:=λh z=>by
  unfold nxV;rw[Ag hj,Ag hx];cases r.accept[j] <;> rfl
 rw[eb];cases ha:r.accept[j]with
 |false =>
  rw[if_neg (by simp),qbd (k:=λ_ _=>0) λh z _ _=>by rw[en,ha,if_neg (by simp)];grind];exact qfe λh _ _=>qbe _ _
 |true =>
  rw[if_pos rfl,show bs[j].qty.length=g.qd.toNat from by omega];unfold sHZ;refine q3f _ _ λh _ hh=>?_;rw[q3f (g:=λz=>if z=bs[j].zone.toNat then valQ r bs[j] h else 0) g.qa.toNat 0 λz _ hz=>?_]
  ·exact qaa _ 0 (by omega) (by omega)
  ·show r.pAt h z*nxV bs r.accept h z j=_;rw[en,ha,if_pos rfl];have hp:=qa9 hs hr (h:=(h:Int)) (z:=bs[j].zone) (by omega) (by omega) (by omega) (by omega);by_cases c:bs[j].zone=(z:Int)
   ·rw[if_pos ⟨c,by omega⟩,if_pos (by omega),qj5];unfold valQ;rw[hp,show((h:Int)).toNat=h from rfl,show bs[j].zone.toNat=z from by omega,DY]
   ·rw[if_neg (λq=>c q.1),if_neg (by omega)]
    grind
theorem ln_part(hs:q2e g ss bs r)(hr:q1f r=true){k:Nat}(hk:k<g.lines.length):sHZ g.qd.toNat g.qa.toNat (λh z=>r.pAt h z*lxV g.lines r h z k)=-q1k r g.lines[k] k:=by
 obtain⟨o1,o2,o3⟩:=q6c hs.ord;have hln:q30 g g.lines[k]=true:=by
  unfold q37 at o1;simp only[Ai]at o1;exact At.1 o1.1.1.2 _ (Ah hk)
 unfold q30 at hln;simp only[Ai,q7j]at hln;have hf:=hs.f;unfold q1k;rw[<- qff,show r.f.length=g.qd.toNat from by omega];unfold sHZ;refine q3f _ _ λh _ hh=>?_;have p1:=qa9 hs hr (h:=(h:Int)) (z:=g.lines[k].src) (by omega) (by omega) (by omega) (by omega);have p2:=qa9 hs hr (h:=(h:Int)) (z:=g.lines[k].dst) (by omega) (by omega) (by omega) (by omega);rw[q3f (g:=λz=>(if z=g.lines[k].src.toNat then prP r h g.lines[k].src*r.fAt h k else 0)+(if z=g.lines[k].dst.toNat then -(prP r h g.lines[k].dst*r.fAt h k)else 0)) g.qa.toNat 0 λz _ hz=>?_,qab,qaa _ 0 (by omega) (by omega),qaa _ 0 (by omega) (by omega)]
 ·unfold valR
  grind
 ·unfold lxV;rw[Ag hk];simp only;rw[p1,p2,show((h:Int)).toNat=h from rfl];by_cases c1:g.lines[k].src=(z:Int) <;> by_cases c2:g.lines[k].dst=(z:Int)
  ·rw[if_pos c1,if_pos c2,if_pos (by omega),if_pos (by omega),show g.lines[k].src.toNat=z from by omega,show g.lines[k].dst.toNat=z from by omega];grind
  ·rw[if_pos c1,if_neg c2,if_pos (by omega),if_neg (by omega),show g.lines[k].src.toNat=z from by omega];grind
  ·rw[if_neg c1,if_pos c2,if_neg (by omega),if_pos (by omega),show g.lines[k].dst.toNat=z from by omega];grind
  ·rw[if_neg c1,if_neg c2,if_neg (by omega),if_neg (by omega)];grind
theorem all_due(hs:q2e g ss bs r)(hr:q1f r=true)(hb:balV g ss bs r=true) :
  sumI (stT ss r) 0 ss.length+sumI (blT bs r) 0 bs.length+sumI (λk=>q1k r (g.lines.getD k default) k) 0 g.lines.length=0:=by
 unfold balV at hb;have hz:∀h z,h<g.qd.toNat->z<g.qa.toNat->q3u ss bs r h z=expV g.lines r h z:=λh z hh hz=>by
  have h1:=At.1 hb h (by rw[BI];omega);have h2:=At.1 h1 z (by rw[BI];omega);simpa using h2
 have hm:min bs.length r.accept.length=bs.length:=by have:=hs.ac;omega
 have mulI:∀(p:Rat) (f:Nat->Rat) (c:Nat),p*sumI f 0 c=sumI (λi=>p*f i) 0 c:=λp f c=>by
  rw[DY,<- qj6];exact q3f c 0 λi _ _=>DY _ _
 have e:=qbd (H:=g.qd.toNat) (Z:=g.qa.toNat) (f:=λh z=>r.pAt h z*q3u ss bs r h z) (k:=λh z=>r.pAt h z*expV g.lines r h z) λh z hh hz'=>by rw[hz h z hh hz']
 have e1:sHZ g.qd.toNat g.qa.toNat (λh z=>r.pAt h z*q3u ss bs r h z)=sumI (blT bs r) 0 bs.length+sumI (stT ss r) 0 ss.length:=by
  rw[qbd (k:=λh z=>sumI (λj=>r.pAt h z*nxV bs r.accept h z j) 0 bs.length+sumI (λi=>r.pAt h z*sxV ss r h z i) 0 ss.length) λh z _ _=>by rw[zone_sum,hm,Rat.mul_add,mulI,mulI],sHZ_add,qfg,qfg];rw[q3f (g:=blT bs r) bs.length 0 λj _ hj=>bl_part hs hr (by omega),q3f (g:=stT ss r) ss.length 0 λi _ hi=>st_part hs hr (by omega)]
 have e2:sHZ g.qd.toNat g.qa.toNat (λh z=>r.pAt h z*expV g.lines r h z)=-sumI (λk=>q1k r (g.lines.getD k default) k) 0 g.lines.length:=by
  rw[qbd (k:=λh z=>sumI (λk=>r.pAt h z*lxV g.lines r h z k) 0 g.lines.length) λh z _ _=>by rw[exp_sum,mulI],qfg,<- qff];exact q3f _ _ λk _ hk=>by rw[ln_part hs hr (by omega),q2m (by omega)]
 rw[e1,e2]at e
 grind
end
end
section
section
variable {g:q10} {ss:List StpV} {bs:List BlkV} {r:ResV}
theorem qdg(s:ByteArray)(t:Txt):s=txt t↔s.data.toList=t:=by
 constructor
 ·rintro rfl;exact q6l t
 ·rintro rfl;unfold txt;rw[ET]
theorem qjr:sumN (λt=>amtV ss bs r (txt t)) (q19 ss bs)=sumI (stT ss r) 0 ss.length+sumI (blT bs r) 0 bs.length:=by
 have ha:=qjs ss bs;rw[show(λt=>amtV ss bs r (txt t))=λt=>sumI (valS r (txt t) ss) 0 ss.length+sumI (valB r (txt t) bs) 0 bs.length from rfl,qjt,qfw,qfw];rw[q3f (g:=stT ss r) ss.length 0 λi _ hi=>?_,q3f (g:=blT bs r) bs.length 0 λj _ hj=>?_]
 ·have hj:j<bs.length:=by omega
  rw[show(λt=>valB r (txt t) bs j)=λt=>if bs[j].who.data.toList=t then blT bs r j else 0 from funext λt=>by
   unfold valB blT;rw[Ag hj];simp only;by_cases c:bs[j].who=txt t
   ·rw[if_pos c,if_pos ((qdg _ _).1 c)]
   ·rw[if_neg c,if_neg λq=>c ((qdg _ _).2 q)]]
  refine qfx ha ((qbl ss bs _).2 ?_);unfold whoL;exact Bw.2 (.inr (Bp.2 ⟨bs[j],Ah hj,rfl⟩))
 ·have hi:i<ss.length:=by omega
  rw[show(λt=>valS r (txt t) ss i)=λt=>if ss[i].who.data.toList=t then stT ss r i else 0 from funext λt=>by
   unfold valS stT;rw[Ag hi];simp only;by_cases c:ss[i].who=txt t
   ·rw[if_pos c,if_pos ((qdg _ _).1 c)]
   ·rw[if_neg c,if_neg λq=>c ((qdg _ _).2 q)]]
  refine qfx ha ((qbl ss bs _).2 ?_);unfold whoL;exact Bw.2 (.inl (Bp.2 ⟨ss[i],Ah hi,rfl⟩))
theorem qpo(hs:q2e g ss bs r)(hr:q1f r=true)(hl:q4c g r=true){k:Nat}(hk:k<g.lines.length):0<=q1k r g.lines[k] k:=by
 obtain⟨o1,o2,o3⟩:=q6c hs.ord;have hln:q30 g g.lines[k]=true:=by
  unfold q37 at o1;simp only[Ai]at o1;exact At.1 o1.1.1.2 _ (Ah hk)
 unfold q30 at hln;simp only[Ai,q7j]at hln;have hf:=hs.f;unfold q1k;refine qju _ _ λh _ hh=>?_;unfold q4c at hl;have h1:=At.1 (At.1 hl h (by rw[BI];omega)) k (by rw[BI];omega);unfold q65 at h1;rw[Ag hk]at h1;simp only[Ai,Cl,Bool.and_eq_false_iff,decide_eq_false_iff_not]at h1;have p1:=qa9 hs hr (h:=(h:Int)) (z:=g.lines[k].src) (by omega) (by omega) (by omega) (by omega);have p2:=qa9 hs hr (h:=(h:Int)) (z:=g.lines[k].dst) (by omega) (by omega) (by omega) (by omega);have c0:((0:Int):Rat)<=((g.lines[k].cap:Int):Rat):=DJ.2 (by omega);have zero:((0:Int):Rat)=0:=rfl;rw[zero]at c0;unfold valR;rw[p1,p2,show((h:Int)).toNat=h from rfl];rw[CR]at h1;generalize r.pAt h g.lines[k].src.toNat=a at h1 ⊢;generalize r.pAt h g.lines[k].dst.toNat=b at h1 ⊢;generalize r.fAt h k=f at h1 ⊢;generalize ((g.lines[k].cap:Int):Rat)=c at h1 c0 ⊢;rcases(show a<b\/a=b\/b<a by grind)with q | q | q
 ·have hfc:0<=f:=by
   rcases h1.2 with u | u
   ·grind
   ·exact absurd q u
  have:=Rat.mul_nonneg hfc (show 0<=b-a by grind);exact this
 ·subst q;have:f*(a-a)=0:=by grind
  rw[this];exact Rat.le_refl
 ·have hfc:0≤-f:=by
   rcases h1.1 with u | u
   ·grind
   ·exact absurd q u
  have:=Rat.mul_nonneg hfc (show 0<=a-b by grind)
  grind
theorem roundN(f:Txt->Rat):∀l:List Txt,2*(((sumZ (l.map λt=>q1a (f t)):Int):Rat)-sumN f l)<=(((l.length:Nat):Int):Rat)/\-(((l.length:Nat):Int):Rat)<=2*(((sumZ (l.map λt=>q1a (f t)):Int):Rat)-sumN f l)
 |[]=>by
  show 2*(((0:Int):Rat)-0)<=((0:Int):Rat)/\-((0:Int):Rat)<=2*(((0:Int):Rat)-0);decide +kernel
 |t::l=>by
  obtain⟨h1,h2⟩:=roundN f l;obtain⟨h3,h4⟩:=qjv (f t);rw[show sumZ ((t::l).map λt=>q1a (f t))=q1a (f t)+sumZ (l.map λt=>q1a (f t)) from rfl,show sumN f (t::l)=f t+sumN f l from rfl,Aq,Ch,BA,BA,show(((1:Nat):Int):Rat)=1 from rfl]
  grind
theorem roundI(f:Nat->Rat):∀(c i:Nat),2*(((sumZ ((List.range' i c).map λk=>q1a (f k)):Int):Rat)-sumI f i c)<=((c:Int):Rat)/\-((c:Int):Rat)<=2*(((sumZ ((List.range' i c).map λk=>q1a (f k)):Int):Rat)-sumI f i c)
 |0,i=>by
  show 2*(((0:Int):Rat)-0)<=((0:Int):Rat)/\-((0:Int):Rat)<=2*(((0:Int):Rat)-0);decide +kernel
 |c+1,i=>by
  obtain⟨h1,h2⟩:=roundI f c (i+1);obtain⟨h3,h4⟩:=qjv (f i);rw[BL,show sumZ ((i::List.range' (i+1) c).map λk=>q1a (f k))=q1a (f i)+sumZ ((List.range' (i+1) c).map λk=>q1a (f k)) from rfl,show sumI f i (c+1)=f i+sumI f (i+1) c from rfl,Ch,BA,BA,show(((1:Nat):Int):Rat)=1 from rfl]
  grind
theorem tot_bd(hs:q2e g ss bs r)(hr:q1f r=true)(hb:balV g ss bs r=true):2*totV g ss bs r<=(((q19 ss bs).length+g.lines.length:Nat):Int)/\-(((q19 ss bs).length+g.lines.length:Nat):Int)<=2*totV g ss bs r:=by
 have e:=all_due hs hr hb;have en:=qjr (ss:=ss) (bs:=bs) (r:=r);obtain⟨a1,a2⟩:=roundN (λt=>amtV ss bs r (txt t)) (q19 ss bs);obtain⟨b1,b2⟩:=roundI (λk=>q1k r (g.lines.getD k default) k) g.lines.length 0;have ta:sumZ ((q19 ss bs).map λt=>q1a (amtV ss bs r (txt t)))=sumZ ((q19 ss bs).map (cW ss bs r)):=rfl;have tb:sumZ ((List.range' 0 g.lines.length).map λk=>q1a (q1k r (g.lines.getD k default) k))=sumZ ((List.range' 0 g.lines.length).map (cR g r)):=rfl;rw[ta,en]at a1 a2;rw[tb]at b1 b2;have two:((2:Int):Rat)=2:=rfl;constructor
 ·rw[<- DJ,EU,two,Ch,BA];unfold totV;rw[BA]
  grind
 ·rw[<- DJ,EU,two,CR,Ch,BA];unfold totV;rw[BA]
  grind
end
end
section
section
variable {n:Nat} {q r:Rat} {d e:Nat}
theorem qb4:evF EnD (n+1) 38 [zb (q).num,wl (q).num,.bool false,wL (d)]=some [iF q.num.sign]:=by
 have:evF EnD (n+1) 38 [zb (q).num,wl (q).num,.bool false,wL (d)]=evF EnA (n+1) 38 [zb (q).num,wl (q).num,.bool false,wL (d)]:=by kernel_rfl
 rw[this];exact w_sign
theorem x_cmp(hq:Sz q)(hr:Sz r)(hd:dn d=q.den)(he:dn e=r.den):evF EnD (n+1) 32 [zb (q).num,wl (q).num,.bool false,wL (d),zb (r).num,wl (r).num,.bool false,wL (e)]=some [iF (cmpQ q r)]:=by
 have:evF EnD (n+1) 32 [zb (q).num,wl (q).num,.bool false,wL (d),zb (r).num,wl (r).num,.bool false,wL (e)]=evF EnA (n+1) 32 [zb (q).num,wl (q).num,.bool false,wL (d),zb (r).num,wl (r).num,.bool false,wL (e)]:=by kernel_rfl
 rw[this,q4j hq hr hd he]
end
theorem qcs{f:Nat->Rat}{K:Nat}:∀(c i:Nat),(∀j,i<=j->j<i+c->Bd K (f j))->Bd (1+(K+1)*c) (sumI f i c)
 |0,_,_=>q3s
 |c+1,i,h=>by
  have h1:=h i (by omega) (by omega);have h2:=qcs c (i+1) λj a b=>h j (by omega) (by omega);exact(h1.add h2).mono (by rw[Cc];omega)
section
variable {g:q10} {ss:List StpV} {bs:List BlkV} {r:ResV} {n:Nat}
theorem qet(h:q2i g ss bs=true):ss.length<=32/\bs.length<=12/\g.qd<=3/\g.lines.length<=3:=by
 have h1:=(q6c h).1;unfold q2i at h;simp only[Ai,As]at h;unfold q37 at h1;simp only[Ai,As,q7j]at h1;omega
theorem qhy(hS:Sq ss bs r)(hs:q2e g ss bs r)(hr:q1f r=true)(who:ByteArray):Bd 200000 (amtV ss bs r who):=by
 obtain⟨l1,l2,l3,l4⟩:=qet hs.ord;obtain⟨o1,o2,o3⟩:=q6c hs.ord;have ok:=qck hs hr who;unfold okA at ok;rw[Ai]at ok;have b1:Bd (1+(2048+1)*ss.length) (sumI (valS r who ss) 0 ss.length):=qcs _ _ λi _ hi=>qen hS (by omega) (At.1 ok.1 i (by rw[BI];omega));have b2:Bd (1+(4000+1)*bs.length) (sumI (valB r who bs) 0 bs.length):=qcs _ _ λj _ hj=>by
  have hj:j<bs.length:=by omega
  have hst:=o3 _ (Ah hj);unfold q3a at hst;simp only[Ai,q7j,As]at hst;unfold valB;rw[Ag hj];simp only;split
  ·split
   ·exact(qcs (K:=1088) bs[j].qty.length 0 λh _ _=>qem hS (Ah hj) h).mono (by omega)
   ·exact q3s
  ·exact q3s
 exact(b1.add b2).mono (by omega)
theorem qmq(hS:Sq ss bs r)(hs:q2e g ss bs r)(hr:q1f r=true){k:Nat}(hk:k<g.lines.length):Bd 200000 (q1k r g.lines[k] k):=by
 obtain⟨l1,l2,l3,l4⟩:=qet hs.ord;have hf:=hs.f;have ok:=qch hs hr hk;unfold q70 at ok;exact(qcs (K:=3074) r.f.length 0 λh _ hh=>valR_bd hS (by omega) (At.1 ok h (by rw[BI];omega))).mono (by omega)
theorem s10_loop(hS:Sq ss bs r)(hs:q2e g ss bs r)(hr:q1f r=true){N:List Txt}{E:List FV}(hN:N.length<=600)(hn:2000<=n):∀(c i m:Nat) (q:Rat),i+c=N.length->c<m->Bd (65+200001*i) q ->
  q2f.l10 (n+9) [] m (cL g ss bs r [zb (q).num,wl (q).num,.bool false,wL (q).den,.list 2 E,.list 1 (N.map sF),iF i]) =
   q2f.l18 (n+9) [] (n+9) (cL g ss bs r [zb (q+sumN (λt=>amtV ss bs r (txt t)) (N.drop i)).num,wl (q+sumN (λt=>amtV ss bs r (txt t)) (N.drop i)).num,.bool false,wL (q+sumN (λt=>amtV ss bs r (txt t)) (N.drop i)).den,.list 2 E,.list 1 (N.map sF),iF 0]):=by
 intro c
 induction c with
 |zero =>
  intro i m q hi hm hq;obtain⟨m,rfl⟩:=qSx m;obtain rfl:i=N.length:=by omega
  rw[q2f.q3l,Aa,Ad,Ab,Dx,show q+sumN (λt=>amtV ss bs r (txt t)) []=q from by show q+0=q;grind]
 |succ c ih =>
  intro i m q hi hm hq;obtain⟨m,rfl⟩:=qSx m;have hil:i<N.length:=by omega
  have hb:=qhy hS hs hr (txt N[i]);have h31:=qvg (n:=n+1) (who:=txt N[i]) hS (by omega);rw[qck hs hr,Ac]at h31;rw[q2f.q3l,Aa,Af,Ac,q9 hil];simp only[q68 hil,rr];rw[show evF EnD (n+9) 31 _=_ from h31];simp only[rr];rw[qci (n:=n+8) (qcj (amtV ss bs r (txt N[i]))) (by have:=hb.len;omega)];simp only[rr];rw[show((0:Int) !=0)=false from rfl,Ab,Ab,q7a (n:=n+8) (hq.mono (by omega)) (hb.mono (by omega)) (qb _) (qb _)];simp only[rr];rw[qc];refine BN (ih (i+1) m (q+amtV ss bs r (txt N[i])) (by omega) (by omega) ((hq.add hb).mono (by omega))) ?_;rw[Ba hil,show sumN (λt=>amtV ss bs r (txt t)) (N[i]::N.drop (i+1))=amtV ss bs r (txt N[i])+sumN (λt=>amtV ss bs r (txt t)) (N.drop (i+1)) from rfl,show q+amtV ss bs r (txt N[i])+sumN (λt=>amtV ss bs r (txt t)) (N.drop (i+1))=q+(amtV ss bs r (txt N[i])+sumN (λt=>amtV ss bs r (txt t)) (N.drop (i+1))) from by grind]
end
end
section
theorem qmo{q:Rat}{k:Nat}(h:Bd k q):Bd (k+2) ((q1a q:Int):Rat):=Bd.int (k:=k+2) (qeq h) (by omega)
theorem bd_small{z:Int}{K:Nat}(h:z.natAbs<=1000)(hK:10<=K):Bd K (z:Rat):=Bd.int (k:=K) (by
 have:(2:Nat)^10<=2^K:=AU (by omega) hK;rw[show(2:Nat)^10=1024 from rfl]at this
 omega) (by omega)
theorem qhx:∀a b:List Int,sumZ (a++b)=sumZ a+sumZ b
 |[],b=>by show sumZ b=0+sumZ b;omega
 |z::a,b=>by
  show z+sumZ (a++b)=z+sumZ a+sumZ b;rw[qhx a b];omega
def lastZ(l:Int):List Int->Int
 |[]=>l
 |z::r=>lastZ z r
theorem qmp(x l:Int):∀a:List Int,lastZ l (a++[x])=x
 |[]=>rfl
 |z::a=>qmp x z a
def entP(p:Txt×Int):FV:=entF p.1 (qu p.2)
theorem chk_all{g:q10}{ss:List StpV}{bs:List BlkV}{r:ResV}(h:chkV g ss bs r=0):balV g ss bs r=true/\q4c g r=true:=by
 unfold chkV at h;cases h1:balV g ss bs r with
 |false=>rw[h1]at h;simp only[AX]at h;repeat (first | (exact absurd h (by decide)) | split at h)
 |true =>
  cases h2:q4c g r with
  |false=>rw[h2]at h;simp only[AX]at h;repeat (first | (exact absurd h (by decide)) | split at h)
  |true=>exact⟨rfl,rfl⟩
section
variable {g:q10} {ss:List StpV} {bs:List BlkV} {r:ResV} {n:Nat}
theorem s18_loop(hS:Sq ss bs r)(hs:q2e g ss bs r)(hr:q1f r=true)(hl:q4c g r=true){A E:List FV}(hn:2000<=n):∀(c k m:Nat) (q:Rat),k+c=g.lines.length->c<m->Bd (130000000+200001*k) q ->
  q2f.l18 (n+9) [] m (cL g ss bs r [zb (q).num,wl (q).num,.bool false,wL (q).den,.list 2 E,.list 1 A,iF k]) =
   q2f.l28 (n+9) [] (n+9) (cL g ss bs r [zb (q+sumI (λk=>q1k r (g.lines.getD k default) k) k c).num,wl (q+sumI (λk=>q1k r (g.lines.getD k default) k) k c).num,.bool false,wL (q+sumI (λk=>q1k r (g.lines.getD k default) k) k c).den,zb (((0:Int):Rat)).num,wl (((0:Int):Rat)).num,.bool false,wL (((0:Int):Rat)).den,zb (((0:Int):Rat)).num,wl (((0:Int):Rat)).num,.bool false,wL (((0:Int):Rat)).den,.list 2 E,.list 1 A,iF 0]):=by
 obtain⟨l1,l2,l3,l4⟩:=qet hs.ord;intro c
 induction c with
 |zero =>
  intro k m q hk hm hq;obtain⟨m,rfl⟩:=qSx m;obtain rfl:k=g.lines.length:=by omega
  rw[q2f.q55,Aa,Ad,Ab,x_of (n:=n+8) (z:=0)];simp only[rr];rw[show q+sumI (λk=>q1k r (g.lines.getD k default) k) g.lines.length 0=q from by show q+0=q;grind]
 |succ c ih =>
  intro k m q hk hm hq;obtain⟨m,rfl⟩:=qSx m;have hkl:k<g.lines.length:=by omega
  have hb:=qmq hS hs hr hkl;have h0:=qpo hs hr hl hkl;have h34:=Rent_run (n:=n+3) (g:=g) hS (by omega) (k:Int);rw[BQ (by omega),show((k:Int)).toNat=k from rfl,q2m hkl,qch hs hr hkl,Ac]at h34;rw[q2f.q55,Aa,Af,Ac];rw[show evF EnD (n+9) 34 _=_ from h34];simp only[rr];rw[qci (n:=n+8) (qcj (q1k r g.lines[k] k)) (by have:=hb.len;omega)];simp only[rr];rw[show((0:Int) !=0)=false from rfl,Ab,Ab,qb4 (n:=n+8)];simp only[rr];have hnum:0<=(q1k r g.lines[k] k).num:=Ds.2 h0;have hsg:¬ (q1k r g.lines[k] k).num.sign<0:=by
   rw[Ez];omega
  rw[Ad hsg,Ab,q7a (n:=n+8) (hq.mono (by omega)) (hb.mono (by omega)) (qb _) (qb _)];simp only[rr];rw[qc];refine BN (ih (k+1) m (q+q1k r g.lines[k] k) (by omega) (by omega) ((hq.add hb).mono (by omega))) ?_;rw[show sumI (λk=>q1k r (g.lines.getD k default) k) k (c+1)=q1k r (g.lines.getD k default) k+sumI (λk=>q1k r (g.lines.getD k default) k) (k+1) c from rfl,q2m hkl];rw[show q+q1k r g.lines[k] k+sumI (λk=>q1k r (g.lines.getD k default) k) (k+1) c=q+(q1k r g.lines[k] k+sumI (λk=>q1k r (g.lines.getD k default) k) (k+1) c) from by grind]
theorem s28_end{P:List (Txt×Int)}{A:List FV}{m:Nat}{l:Int}(hl:2*l<=(P.length:Int)-1)(hl2:-((P.length:Int)-1)<=2*l)(hP:P.length<=10000)(hA:P.length=A.length+g.lines.length+1) :
  q2f.l28 (n+9) [] (m+1) (cL g ss bs r [zb ((0:Rat)).num,wl ((0:Rat)).num,.bool false,wL ((0:Rat)).den,zb (((0:Int):Rat)).num,wl (((0:Int):Rat)).num,.bool false,wL (((0:Int):Rat)).den,zb ((l:Rat)).num,wl ((l:Rat)).num,.bool false,wL ((l:Rat)).den,.list 2 (P.map entP),.list 1 A,iF (P.length:Nat)])=some [.bool true]:=by
 have e0:(0:Rat).num.sign=0:=rfl;have hn:∀z:Int,((z:Rat)).num=z:=λz=>rfl;have go:∀z:Int,2*z<=(P.length:Int)-1->0<=z ->
   ((evF EnD (n+9) 37 [zb ((z:Rat)).num,wl ((z:Rat)).num,.bool false,wL ((z:Rat)).den,zb ((z:Rat)).num,wl ((z:Rat)).num,.bool false,wL ((z:Rat)).den]).bind λr24=>(asBool (r24[0]?)).bind λc25=>(asLst 1 (r24[1]?)).bind λv26=>(asBool (r24[2]?)).bind λc27=>(asLst 1 (r24[3]?)).bind λv28=>(evF EnD (n+9) 12 [.int .i64 (w6 ((P.length:Int)-1))]).bind λr29=>(asBool (r29[0]?)).bind λc30=>(asLst 1 (r29[1]?)).bind λv31=>(asBool (r29[2]?)).bind λc32=>(asLst 1 (r29[3]?)).bind λv33=>(evF EnD (n+9) 32 [.bool c25,.list 1 v26,.bool c27,.list 1 v28,.bool c30,.list 1 v31,.bool c32,.list 1 v33]).bind λr34=>(asInt .i64 (r34[0]?)).bind λn35=>some [FV.bool (decide (n35<=0))])=some [.bool true]:=λz hz hz0=>by
  have b1:Bd 64 (z:Rat):=q8x;rw[q7a (n:=n+8) (b1.mono (by omega)) (b1.mono (by omega)) (qb _) (qb _)];simp only[rr];rw[ql (x:=(P.length:Int)-1),x_of (n:=n+8)];simp only[rr];rw[show evF EnD (n+9) 32 _=_ from x_cmp (n:=n+8) (q:=(z:Rat)+(z:Rat)) (r:=(((P.length:Int)-1:Int):Rat)) ((b1.add b1).mono (by omega)) ((q8x).mono (by omega)) (qb _) (qb _)];simp only[rr];rw[cmpQ_le,decide_eq_true];rw[<- BA,DJ];omega
 have ew:w6 (w6 ((A.length:Int)+((g.lines.map qz.fv).length:Int))+1)=(P.length:Int):=by
  rw[Aa,ql (x:=(A.length:Int)+(g.lines.length:Int)),ql (x:=(A.length:Int)+(g.lines.length:Int)+1)];omega
 rw[q2f.l28_eq,ew,Aa,Ad,Ab,qb4 (n:=n+8)];simp only[rr];by_cases c:l<0
 ·rw[Af (show((l:Rat)).num.sign<0 from by rw[hn,Ez];exact c),Ac,x_neg (n:=n+8) (qb _)];simp only[rr];rw[qb4 (n:=n+8),e0];simp only[rr];rw[show((0:Int)==0)=true from rfl,Ac,qb4 (n:=n+8),show((0:Int):Rat).num.sign=0 from rfl];simp only[rr];rw[show((0:Int)==0)=true from rfl,Ac,Be,Ac];have h:=go (-l) (by omega) (by omega);rw[CR]at h;exact h
 ·rw[Ad (show ¬ ((l:Rat)).num.sign<0 from by rw[hn,Ez];exact c),Ab];rw[qb4 (n:=n+8),e0];simp only[rr];rw[show((0:Int)==0)=true from rfl,Ac,qb4 (n:=n+8),show((0:Int):Rat).num.sign=0 from rfl];simp only[rr];rw[show((0:Int)==0)=true from rfl,Ac,Be,Ac];exact go l (by omega) (by omega)
theorem at_ent{P:List (Txt×Int)}{i:Nat}(h:i<P.length):at' (P.map entP) i 1=some (sF (qu P[i].2)):=by rw[q28,Ag h];rfl
theorem s28_loop{P:List (Txt×Int)}{A:List FV}(hP:P.length<=900)(hA:P.length=A.length+g.lines.length+1)(hb:∀p,p∈P->Bd 200002 (p.2:Rat)){x:Int}(hx:2*x<=(P.length:Int)-1)(hx2:-((P.length:Int)-1)<=2*x):∀(c i m:Nat) (s l:Int),i+c=P.length->c<m->Bd (1+200003*i) (s:Rat)->s+sumZ ((P.drop i).map Prod.snd)=0->lastZ l ((P.drop i).map Prod.snd)=x ->
  q2f.l28 (n+9) [] m (cL g ss bs r [zb ((0:Rat)).num,wl ((0:Rat)).num,.bool false,wL ((0:Rat)).den,zb ((s:Rat)).num,wl ((s:Rat)).num,.bool false,wL ((s:Rat)).den,zb ((l:Rat)).num,wl ((l:Rat)).num,.bool false,wL ((l:Rat)).den,.list 2 (P.map entP),.list 1 A,iF i])=some [.bool true]:=by
 intro c
 induction c with
 |zero =>
  intro i m s l hi hm hsb hsum hlast;obtain⟨m,rfl⟩:=qSx m;obtain rfl:i=P.length:=by omega
  rw[Dx]at hsum hlast;have e1:s=0:=by have:s+0=0:=hsum;omega
  have e2:l=x:=hlast;subst e1 e2;exact s28_end hx hx2 (by omega) hA
 |succ c ih =>
  intro i m s l hi hm hsb hsum hlast;obtain⟨m,rfl⟩:=qSx m;have hil:i<P.length:=by omega
  have bz:=hb _ (Ah hil);rw[Ba hil,AM]at hsum hlast;have hsum':s+(P[i].2+sumZ ((P.drop (i+1)).map Prod.snd))=0:=hsum;have hlast':lastZ P[i].2 ((P.drop (i+1)).map Prod.snd)=x:=hlast;have ea:=at_ent hil;generalize P[i].2=z at bz hsum' hlast' ea;rw[q2f.l28_eq,Aa,Af,Ac,q9 hil];simp (disch:=omega) only[ea,rr];rw[show qu z=qw (z:Rat) from(qm5 z).symm,qci (n:=n+8) (qcj (z:Rat)) (by have:=bz.len;omega)];simp only[rr];rw[show((0:Int) !=0)=false from rfl,Ab,q7a (n:=n+8) (hsb.mono (by omega)) (bz.mono (by omega)) (qb _) (qb _),<- BA];simp only[rr];rw[qc];exact ih (i+1) m (s+z) z (by omega) (by omega) (by rw[BA];exact(hsb.add bz).mono (by omega)) (by omega) hlast'
noncomputable def q4w(g:q10)(ss:List StpV)(bs:List BlkV)(r:ResV):List (Txt×Int) :=
 (q19 ss bs).map (λt=>(whoT++t,cW ss bs r t))++(List.range' 0 g.lines.length).map (λk=>(qb3++qk k,cR g r k))++[(qb2,-totV g ss bs r)]
theorem posts_Z:qcl g ss bs r=(q4w g ss bs r).map entP:=by
 unfold qcl q4w;rw[AW,AW,BY,BY];rfl
theorem postZ_len:(q4w g ss bs r).length=(q19 ss bs).length+g.lines.length+1:=by
 unfold q4w;simp only[Bc,Aa,List.length_range',Ci]
theorem qmr:(q4w g ss bs r).map Prod.snd=(q19 ss bs).map (cW ss bs r)++(List.range' 0 g.lines.length).map (cR g r)++[-totV g ss bs r]:=by
 unfold q4w;rw[AW,AW,BY,BY];rfl
theorem Bd_sumN{f:Txt->Rat}{K:Nat}(h:∀t,Bd K (f t)):∀l,Bd (1+(K+1)*l.length) (sumN f l)
 |[]=>q3s
 |t::l=>((h t).add (Bd_sumN h l)).mono (by rw[Aq,Cc];omega)
theorem postZ_bd(hS:Sq ss bs r)(hs:q2e g ss bs r)(hr:q1f r=true)(ht:2*totV g ss bs r<=1000)(ht2:-1000<=2*totV g ss bs r){z:Int}(hz:z∈(q4w g ss bs r).map Prod.snd):Bd 200002 (z:Rat):=by
 rw[qmr]at hz;rcases Bw.1 hz with q | q
 ·rcases Bw.1 q with q | q
  ·obtain⟨t,_,rfl⟩:=Bp.1 q;exact qmo (qhy hS hs hr (txt t))
  ·obtain⟨k,hk,rfl⟩:=Bp.1 q;rw[BI]at hk;have hkl:k<g.lines.length:=by omega
   have e:cR g r k=q1a (q1k r g.lines[k] k):=by unfold cR;rw[q2m hkl]
   rw[e];exact qmo (qmq hS hs hr hkl)
 ·have e:z=-totV g ss bs r:=BM.1 q;exact bd_small (by omega) (by omega)
theorem sums_run(h:Sm g ss bs r)(hS:Sq ss bs r)(hws:∀s,s∈ss->s.who.size<=1000000)(hwb:∀b,b∈bs->b.who.size<=1000000)(hn:300000<=n)
  (hv:evF EnD (n+10) 29 (cL g ss bs r [])=some [.bool false]):evF EnD (n+11) 11 (cL g ss bs r [])=some [.bool true]:=by
 have p5:=quh (n:=n) h hS hws hwb (by omega);have p6:=qu5 (n:=n) h hS hws hwb hn;obtain⟨_,hlen⟩:=qm6 hS hws hwb;rw[qkr];refine BN (congrArg (λo=>Option.bind o _) hv) ?_;simp only[rr];refine BN (congrArg (λo=>Option.bind o _) p5) ?_;cases hc:(decide (chkV g ss bs r=0)&&(q19 ss bs).all λt=>q2z (txt t))with
 |false =>
  have q:q8y g ss bs r=[.list 2 [],iF 1]:=by unfold q8y;rw[hc];rfl
  rw[q]at p6 ⊢;simp only[rr];refine BN (congrArg (λo=>Option.bind o _) p6) ?_;rfl
 |true =>
  have q:q8y g ss bs r=[.list 2 ((q4w g ss bs r).map entP),iF 0]:=by unfold q8y;rw[hc,posts_Z];rfl
  rw[Ai,As]at hc;obtain⟨hs,hr⟩:=qhr hc.1;obtain⟨hbal,hlin⟩:=chk_all hc.1;obtain⟨l1,l2,l3,l4⟩:=qet hs.ord;obtain⟨t1,t2⟩:=tot_bd hs hr hbal;have hall:=all_due hs hr hbal;have hnam:=qjr (ss:=ss) (bs:=bs) (r:=r);have hpl:=postZ_len (g:=g) (ss:=ss) (bs:=bs) (r:=r);have hps:=qmr (g:=g) (ss:=ss) (bs:=bs) (r:=r);rw[q]at p6 ⊢;simp only[rr];refine BN (congrArg (λo=>Option.bind o _) p6) ?_;simp only[rr];rw[show((0:Int) !=0)=false from rfl,Ab,Ab,x_of (n:=n+9) (z:=0)];simp only[rr];rw[qlh (n:=n+9) hS.ssl hS.bsl (by omega)];simp only[rr];have g10:=s10_loop (n:=n+1) (g:=g) (E:=(q4w g ss bs r).map entP) (N:=q19 ss bs) hS hs hr hlen (by omega) (q19 ss bs).length 0 (n+10) 0 (by omega) (by omega) (q3s);refine BN (show _=q2f.l10 (n+10) [] (n+10) _ from rfl) (g10.trans ?_);rw[Av];have bq:Bd 130000000 ((0:Rat)+sumN (λt=>amtV ss bs r (txt t)) (q19 ss bs)):=by
   refine((q3s (k:=1) (by omega)).add (Bd_sumN (λt=>qhy hS hs hr (txt t)) (q19 ss bs))).mono ?_;have:(200000+1)*(q19 ss bs).length<=(200000+1)*600:=BB _ hlen;omega
  have g18:=s18_loop (n:=n+1) (g:=g) (E:=(q4w g ss bs r).map entP) (A:=(q19 ss bs).map sF) hS hs hr hlin (by omega) g.lines.length 0 (n+10) _ (by omega) (by omega) bq;refine g18.trans ?_;rw[show(0:Rat)+sumN (λt=>amtV ss bs r (txt t)) (q19 ss bs)+sumI (λk=>q1k r (g.lines.getD k default) k) 0 g.lines.length=0 from by rw[hnam];grind];refine s28_loop (n:=n+1) (P:=q4w g ss bs r) (by omega) (by rw[Aa];omega) (λp hp=>?_) (x:=-totV g ss bs r) (by omega) (by omega) (q4w g ss bs r).length 0 (n+10) 0 0 (by omega) (by omega) (q3s) ?_ ?_
  ·have hm:p.2∈(q4w g ss bs r).map Prod.snd:=Bp.2 ⟨p,hp,rfl⟩;exact postZ_bd hS hs hr (by omega) (by omega) hm
  ·rw[Av,hps,qhx,qhx];show 0+(_+_+(-totV g ss bs r+0))=0;unfold totV;omega
  ·rw[Av,hps,qmp]
end
theorem qui (L:List FV) (h:All2 Fits (.int .i64::.int .i64::.lst true 24 [.int .i64,.int .i64,.int .i64]::.int .i64::.int .i64::.lst true 64 [.str,.int .i64,.int .i64,.int .i64,.bool,.int .i64,.int .i64] ::
  .lst true 88 [.str,.int .i64,.int .i64,.bool,.int .i64,.lst false 8 [.int .i64],.int .i64,.int .i64]::.lst false 1 [.bool]::.lst false 16 [.str]::.lst false 24 [.lst false 16 [.str]]::.lst false 24 [.lst false 16 [.str]]::.str::.str::.bool::.int .i64::[]) L) :
  ∃n,evF EnD n 11 L=some [.bool true]:=by
 obtain⟨g,ss,bs,r,rest,rfl,hS,hz,h⟩:=case_of20 h;obtain rfl:=h.q8b;obtain⟨b,hb,hsm⟩:=qse hS hz (Ak _);cases b with
 |false =>
  obtain⟨m1,m2,m3,m4⟩:=hsm rfl;exact⟨9000000000000000+2+11,sums_run m1 m2 m3 m4 (by omega) (by have:=hb 10;exact this)⟩
 |true =>
  refine⟨9000000000000000+2+1,?_⟩;have:=hb 0;rw[qkr];refine BN (congrArg (λo=>Option.bind o _) this) ?_;simp only[rr]
end
end Rf
