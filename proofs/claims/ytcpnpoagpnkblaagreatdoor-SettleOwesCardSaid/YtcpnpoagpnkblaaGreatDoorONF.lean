/- Texts of this work put together, their blanks and comments taken out: Amv, Am1, Am2. -/
import Derived.Test.YtcpnpoagpnkblaaGreatDoorOMW
import Derived.Test.YtcpnpoagpnkblaaGreatDoorONE
import Derived.Test.YtcpnpoagpnkblaaGreatDoorOMY
import Derived.Test.YtcpnpoagpnkblaaGreatDoorOMX
set_option linter.unusedVariables false
set_option linter.unusedSimpArgs false
set_option maxHeartbeats 4000000
namespace Rf
open Go
section
noncomputable def sumI(f:Nat->Rat):Nat->Nat->Rat
 |_,0=>0
 |i,c+1=>f i+sumI f (i+1) c
theorem qge{f g:Nat->Rat}:∀(c i:Nat),(∀j,i<=j->j<i+c->f j=g j)->sumI f i c=sumI g i c
 |0,_,_=>rfl
 |c+1,i,h=>by
  unfold sumI;rw[h i (by omega) (by omega),qge c (i+1) λj a b=>h j (by omega) (by omega)]
theorem qkh{f g:Nat->Rat}:∀(c i:Nat),sumI (λj=>f j+g j) i c=sumI f i c+sumI g i c
 |0,_=>by unfold sumI;grind
 |c+1,i=>by
  unfold sumI;rw[qkh c (i+1)]
  grind
theorem qki{f:Nat->Rat}{q:Rat}:∀(c i:Nat),sumI (λj=>f j*q) i c=sumI f i c*q
 |0,_=>by unfold sumI;grind
 |c+1,i=>by
  unfold sumI;rw[qki c (i+1)]
  grind
theorem qgf{f:Nat->Rat}:∀(c i:Nat),sumI (λj=>-f j) i c=-sumI f i c
 |0,_=>by unfold sumI;grind
 |c+1,i=>by
  unfold sumI;rw[qgf c (i+1)]
  grind
def hasP(r:ResV)(h z:Int):Bool:=decide (0<=h)&&decide (h<(r.p.length:Int))&&decide (0<=z)&&decide (z<((r.p.getD h.toNat []).length:Int))
noncomputable def pOk(r:ResV)(h z:Int):Bool:=hasP r h z&&isNum ((r.p.getD h.toNat []).getD z.toNat [])
noncomputable def prP(r:ResV)(h z:Int):Rat:=if hasP r h z=true then r.pAt h.toNat z.toNat else 0
def sgnQ(buy:Bool)(q:Rat):Rat:=bif buy then -q else q
noncomputable def okS(r:ResV)(who:ByteArray)(ss:List StpV)(i:Nat):Bool:=match ss[i]? with
 |some s=>!(decide (s.who=who))||(decide (i<r.x.length)&&isNum (r.x.getD i [])&&pOk r s.hour s.zone)
 |none=>true
noncomputable def valS(r:ResV)(who:ByteArray)(ss:List StpV)(i:Nat):Rat:=match ss[i]? with
 |some s=>if s.who=who then sgnQ s.buy (r.xAt i*prP r s.hour s.zone)else 0
 |none=>0
noncomputable def valQ(r:ResV)(b:BlkV)(h:Nat):Rat:=sgnQ b.buy (prP r h b.zone*((b.qty.getD h 0:Int):Rat))
noncomputable def okB(r:ResV)(who:ByteArray)(bs:List BlkV)(i:Nat):Bool:=match bs[i]? with
 |some b=>!(decide (b.who=who))||(decide (i<r.accept.length)&&(!(r.accept.getD i false)||(List.range' 0 b.qty.length).all λh=>pOk r h b.zone))
 |none=>true
noncomputable def valB(r:ResV)(who:ByteArray)(bs:List BlkV)(i:Nat):Rat:=match bs[i]? with
 |some b=>if b.who=who then(if r.accept.getD i false=true then sumI (valQ r b) 0 b.qty.length else 0)else 0
 |none=>0
noncomputable def okA(ss:List StpV)(bs:List BlkV)(r:ResV)(who:ByteArray):Bool:=(List.range' 0 ss.length).all (okS r who ss)&&(List.range' 0 bs.length).all (okB r who bs)
noncomputable def amtV(ss:List StpV)(bs:List BlkV)(r:ResV)(who:ByteArray):Rat:=sumI (valS r who ss) 0 ss.length+sumI (valB r who bs) 0 bs.length
noncomputable def okR(r:ResV)(l:qz)(k h:Nat):Bool:=decide (k<(r.f.getD h []).length)&&isNum ((r.f.getD h []).getD k [])&&pOk r h l.src&&pOk r h l.dst
noncomputable def valR(r:ResV)(l:qz)(k h:Nat):Rat:=r.fAt h k*(prP r h l.dst-prP r h l.src)
noncomputable def q56(r:ResV)(l:qz)(k:Nat):Rat:=sumI (valR r l k) 0 r.f.length
noncomputable def q9u(r:ResV)(l:qz)(k:Nat):Bool:=(List.range' 0 r.f.length).all (okR r l k)
theorem qe1{F:Nat->Nat->Rat->Nat->Res}{len:Nat}{f:Nat->Rat}{ok:Nat->Bool}{fin:Rat->Nat->Bool->Res}(K:Nat)
  (hs:∀m i q d,i<len->Sz q->dn d=q.den->ok i=true->F (m+1) i q d=F m (i+1) (q+f i) (q+f i).den)
  (hn:∀m i q d,i<len->Sz q->dn d=q.den->ok i=false->F (m+1) i q d=fin q d false)
  (he:∀m q d,Sz q->dn d=q.den->F (m+1) len q d=fin q d true)
  (hb:∀i,i<len->ok i=true->Bd K (f i)) (hK:2+(K+1)*len<=1000000000) :
  ∀(c i m:Nat) (q:Rat) (d:Nat),i+c=len->c<m->Bd (2+(K+1)*i) q->dn d=q.den ->
   ∃q' d',F m i q d=fin q' d' ((List.range' i c).all ok)/\dn d'=q'.den/\Bd (2+(K+1)*len) q'/\((List.range' i c).all ok=true->q'=q+sumI f i c):=by
 intro c
 induction c with
 |zero =>
  intro i m q d hi hm hq hd;obtain⟨m,rfl⟩:=qSx m;obtain rfl:i=len:=by omega
  exact⟨q,d,he m q d (hq.mono hK) hd,hd,hq,λ_=>by unfold sumI;grind⟩
 |succ c ih =>
  intro i m q d hi hm hq hd;obtain⟨m,rfl⟩:=qSx m;have hle:2+(K+1)*i<=2+(K+1)*len:=Fa (BB _ (by omega)) _;have hle2:2+(K+1)*(i+1)<=2+(K+1)*len:=Fa (BB _ (by omega)) _;have hq1:Sz q:=hq.mono (AZ hle hK);rw[BK,Bk];cases ho:ok i with
  |false =>
   exact⟨q,d,by rw[hn m i q d (by omega) hq1 hd ho];rfl,hd,hq.mono hle,λh=>by cases h⟩
  |true =>
   have hb':Bd (2+(K+1)*(i+1)) (q+f i):=(hq.add (hb i (by omega) ho)).mono (by rw[Ce];omega);obtain⟨q',d',e1,e2,e3,e4⟩:=ih (i+1) m (q+f i) _ (by omega) (by omega) hb' (qb _);refine⟨q',d',by rw[hs m i q d (by omega) hq1 hd ho,e1];rfl,e2,e3,λh=>?_⟩;rw[e4 h];show _=q+(f i+sumI f (i+1) c)
   grind
theorem qgg{F:Nat->Nat->Rat->Res}{len:Nat}{f:Nat->Rat}{ok:Nat->Bool}{fin:Rat->Res}{stop:Res}(K B:Nat)
  (hs:∀m i q,i<len->Sz q->ok i=true->F (m+1) i q=F m (i+1) (q+f i))
  (hn:∀m i q,i<len->Sz q->ok i=false->F (m+1) i q=stop)
  (he:∀m q,Sz q->F (m+1) len q=fin q)
  (hb:∀i,i<len->ok i=true->Bd K (f i)) (hK:B+(K+1)*len<=1000000000) :
  ∀(c i m:Nat) (q:Rat),i+c=len->c<m->Bd (B+(K+1)*i) q ->
   F m i q=(bif(List.range' i c).all ok then fin (q+sumI f i c)else stop)/\((List.range' i c).all ok=true->Bd (B+(K+1)*len) (q+sumI f i c)):=by
 intro c
 induction c with
 |zero =>
  intro i m q hi hm hq;obtain⟨m,rfl⟩:=qSx m;obtain rfl:i=len:=by omega
  have e:q+sumI f i 0=q:=by unfold sumI;grind
  rw[e];exact⟨he m q (hq.mono hK),λ_=>hq⟩
 |succ c ih =>
  intro i m q hi hm hq;obtain⟨m,rfl⟩:=qSx m;have hle:B+(K+1)*i<=B+(K+1)*len:=Fa (BB _ (by omega)) _;have hq1:Sz q:=hq.mono (AZ hle hK);rw[BK,Bk];cases ho:ok i with
  |false =>
   exact⟨by rw[hn m i q (by omega) hq1 ho];rfl,λh=>by cases h⟩
  |true =>
   have hb':Bd (B+(K+1)*(i+1)) (q+f i):=(hq.add (hb i (by omega) ho)).mono (by rw[Ce];omega);obtain⟨e1,e2⟩:=ih (i+1) m (q+f i) (by omega) (by omega) hb';have e:q+sumI f i (c+1)=q+f i+sumI f (i+1) c:=by
    show q+(f i+sumI f (i+1) c)=_
    grind
   rw[hs m i q (by omega) hq1 ho,e];exact⟨e1,e2⟩
section
variable {n:Nat} {q r:Rat} {d e:Nat}
theorem d_of{z:Int}(h1:-9223372036854775808<=z)(h2:z<=9223372036854775807):evF EnD (n+1) 111 [iF z]=some [zl ((z:Rat)).num,zb ((z:Rat)).num,nL ((z:Rat)).den,.bool false]:=by
 have:evF EnD (n+1) 111 [iF z]=evF EnA (n+1) 111 [iF z]:=by kernel_rfl
 rw[this,a_of h1 h2]
theorem d_add(hq:Sz q)(hr:Sz r)(hd:dn d=q.den)(he:dn e=r.den):evF EnD (n+1) 113 [zl (q).num,zb (q).num,nL (d),.bool false,zl (r).num,zb (r).num,nL (e),.bool false]=some [zl (q+r).num,zb (q+r).num,nL (q+r).den,.bool false]:=by
 have:evF EnD (n+1) 113 [zl (q).num,zb (q).num,nL (d),.bool false,zl (r).num,zb (r).num,nL (e),.bool false]=evF EnA (n+1) 113 [zl (q).num,zb (q).num,nL (d),.bool false,zl (r).num,zb (r).num,nL (e),.bool false]:=by kernel_rfl
 rw[this,a_add hq hr hd he]
theorem d_sub(hq:Sz q)(hr:Sz r)(hd:dn d=q.den)(he:dn e=r.den):evF EnD (n+1) 112 [zl (q).num,zb (q).num,nL (d),.bool false,zl (r).num,zb (r).num,nL (e),.bool false]=some [zl (q-r).num,zb (q-r).num,nL (q-r).den,.bool false]:=by
 have:evF EnD (n+1) 112 [zl (q).num,zb (q).num,nL (d),.bool false,zl (r).num,zb (r).num,nL (e),.bool false]=evF EnA (n+1) 112 [zl (q).num,zb (q).num,nL (d),.bool false,zl (r).num,zb (r).num,nL (e),.bool false]:=by kernel_rfl
 rw[this,a_sub hq hr hd he]
theorem d_mul(hq:Sz q)(hr:Sz r)(hd:dn d=q.den)(he:dn e=r.den):evF EnD (n+1) 154 [zl (q).num,zb (q).num,nL (d),.bool false,zl (r).num,zb (r).num,nL (e),.bool false]=some [zl (q*r).num,zb (q*r).num,nL (q*r).den,.bool false]:=by
 have:evF EnD (n+1) 154 [zl (q).num,zb (q).num,nL (d),.bool false,zl (r).num,zb (r).num,nL (e),.bool false]=evF EnA (n+1) 154 [zl (q).num,zb (q).num,nL (d),.bool false,zl (r).num,zb (r).num,nL (e),.bool false]:=by kernel_rfl
 rw[this,a_mul hq hr hd he]
theorem d_neg(hq:Sz q)(hd:dn d=q.den):evF EnD (n+1) 169 [zl (q).num,zb (q).num,nL (d),.bool false]=some [zl (-q).num,zb (-q).num,nL (-q).den,.bool false]:=by
 have:evF EnD (n+1) 169 [zl (q).num,zb (q).num,nL (d),.bool false]=evF EnA (n+1) 169 [zl (q).num,zb (q).num,nL (d),.bool false]:=by kernel_rfl
 rw[this,a_neg hq hd]
theorem d_text(hq:Sz q)(hd:dn d=q.den):evF EnD (n+1) 167 [zl (q).num,zb (q).num,nL (d),.bool false]=some [sF (qx q)]:=by
 have:evF EnD (n+1) 167 [zl (q).num,zb (q).num,nL (d),.bool false]=evF EnA (n+1) 167 [zl (q).num,zb (q).num,nL (d),.bool false]:=by kernel_rfl
 rw[this,a_text hq hd]
theorem qgh{t:Txt}(hl:t.length<=256):∃d,evF EnD (n+1) 118 [sF t]=some [zl (rd t).num,zb (rd t).num,nL d,.bool false,iF (if isNum t=true then 0 else 10)]/\dn d=(rd t).den:=by
 have:evF EnD (n+1) 118 [sF t]=evF EnA (n+1) 118 [sF t]:=by kernel_rfl
 rw[this];cases h:pr t with
 |some q =>
  refine⟨q.den,?_,?_⟩
  ·rw[qbd h,rd_some h];unfold isNum;rw[h];rfl
  ·rw[rd_some h,qb]
 |none =>
  have e:rd t=0:=by unfold rd;rw[h];rfl
  refine⟨0,?_,?_⟩
  ·rw[a_bad h,e];unfold isNum;rw[h,q3m,show zl (0:Rat).num=nL 0 from rfl,q3m];rfl
  ·rw[e];rfl
end
end
section
structure Sq(ss:List StpV)(bs:List BlkV)(r:ResV):Prop where
 ssl:ss.length<=256
 bsl:bs.length<=256
 acl:r.accept.length<=256
 xl:r.x.length<=256
 fl:r.f.length<=256
 pl:r.p.length<=256
 x:∀t,t∈r.x->t.length<=256
 f:∀l,l∈r.f->Few l
 p:∀l,l∈r.p->Few l
 q:∀b,b∈bs->b.qty.length<=256
 z:∀b,b∈bs->∀q,q∈b.qty->-9223372036854775808<=q/\q<=9223372036854775807
theorem q59:zl (0:Rat).num=.list 1 []:=by rw[show zl (0:Rat).num=nL 0 from rfl,q3m]
theorem q4u:zb (0:Rat).num=.bool false:=rfl
theorem q4w{k:Nat}(hk:1<=k:=by omega):Bd k 0:=⟨Fz k,by show 1<2^k;exact EH (by omega)⟩
theorem q9n{z:Int}(h1:-9223372036854775808<=z:=by omega)(h2:z<=9223372036854775807:=by omega):Bd 64 (z:Rat):=Bd.int (k:=64) (by rw[show(2:Nat)^64=18446744073709551616 from rfl];omega) (by omega)
theorem Bd.sgnQ{k:Nat}{q:Rat}(h:Bd k q)(b:Bool):Bd k (sgnQ b q):=by
 cases b with
 |true=>exact h.neg
 |false=>exact h
section
variable {ss:List StpV} {bs:List BlkV} {r:ResV} {n:Nat} {who:ByteArray}
theorem q78{α:Type}{P:List (List α)}{k:Nat}(h:k<P.length):P.getD k []=P[k]:=by rw[AG,Ag h];rfl
theorem q79(hS:Sq ss bs r)(h z:Int):Bd 1024 (prP r h z):=by
 unfold prP;split
 ·rename_i hp;unfold hasP at hp;simp only[Ai,As]at hp;obtain⟨⟨⟨h1,h2⟩,h3⟩,h4⟩:=hp;have k1:h.toNat<r.p.length:=by omega
  rw[q78 k1]at h4;have k2:z.toNat<r.p[h.toNat].length:=by omega
  have hf:=(hS.p _ (Ah k1)).2 _ (Ah k2);unfold ResV.pAt;rw[q78 k1,AG,Ag k2];exact q3c hf
 ·exact q4w
theorem qeq(hS:Sq ss bs r)(h z:Int):∃d,evF EnD (n+2) 152 (rL r [iF h,iF z])=some [zl (prP r h z).num,zb (prP r h z).num,nL d,.bool false,.bool (pOk r h z)]/\dn d=(prP r h z).den:=by
 have no:hasP r h z=false->prP r h z=0/\pOk r h z=false:=λq=>by
  unfold prP pOk;rw[q];exact⟨rfl,rfl⟩
 have nf:hasP r h z=false->evF EnD (n+2) 152 (rL r [iF h,iF z])=some [.list 1 [],.bool false,.list 1 [],.bool false,.bool false]->∃d,evF EnD (n+2) 152 (rL r [iF h,iF z])=some [zl (prP r h z).num,zb (prP r h z).num,nL d,.bool false,.bool (pOk r h z)]/\dn d=(prP r h z).den:=λq e=>by
  obtain⟨e1,e2⟩:=no q;refine⟨0,?_,?_⟩
  ·rw[e,e1,e2,q59,q4u,q3m]
  ·rw[e1];rfl
 by_cases c1:h<0
 ·refine nf (by unfold hasP;rw[Ad (p:=0<=h) (by omega)];rfl) ?_;rw[qc0,Af c1,Ac]
 by_cases c2:h<(r.p.length:Int)
 ·by_cases c3:z<0
  ·refine nf (by unfold hasP;rw[Ad (p:=0<=z) (by omega),CF];rfl) ?_;rw[qc0,Ad c1,Ab,Aa,Ad,Ab,Af c3,Ac]
  ·obtain⟨k,rfl⟩:∃k:Nat,h=k:=⟨h.toNat,by omega⟩;obtain⟨j,rfl⟩:∃j:Nat,z=j:=⟨z.toNat,by omega⟩;have k1:k<r.p.length:=by omega
   by_cases c4:j<r.p[k].length
   ·have hf:=(hS.p _ (Ah k1)).2 _ (Ah c4);have hp:hasP r k j=true:=by
     unfold hasP;rw[show((k:Int)).toNat=k from rfl,q78 k1];simp only[Ai,As];omega
    have e1:prP r k j=rd r.p[k][j]:=by
     unfold prP;rw[if_pos hp];unfold ResV.pAt;rw[show((k:Int)).toNat=k from rfl,show((j:Int)).toNat=j from rfl,q78 k1,AG,Ag c4];rfl
    have e2:pOk r k j=isNum r.p[k][j]:=by
     unfold pOk;rw[hp,AB,show((k:Int)).toNat=k from rfl,show((j:Int)).toNat=j from rfl,q78 k1,AG,Ag c4];rfl
    obtain⟨d,d1,d2⟩:=qgh (n:=n) hf;rw[e1,e2];refine⟨d,?_,d2⟩;rw[qc0,Ad c1,Ab,Aa,Ad,Ab,Ad c3,Ab,q9 k1,Ae,q2f k1,qy,Ae,Aa,Ad,Ab,Ae,q2f k1,qy,Ae,Aa,q9 c4,Ae,q8s c4,q2k,Ae,d1];simp only[rr];cases isNum r.p[k][j] <;> rfl
   ·refine nf (by unfold hasP;rw[show((k:Int)).toNat=k from rfl,q78 k1,Ad (p:=(j:Int)<(r.p[k].length:Int)) (by omega),CF]) ?_;rw[qc0,Ad c1,Ab,Aa,Ad,Ab,Ad c3,Ab,q9 k1,Ae,q2f k1,qy,Ae,Aa,Af,Ac]
 ·refine nf (by unfold hasP;rw[Ad c2,CF,Ck,Ck]) ?_;rw[qc0,Ad c1,Ab,Aa,Af,Ac]
theorem qnh{b:Bool}{q:Rat}{d:Nat}(hq:Sz q)(hd:dn d=q.den):∃d',evF EnD (n+2) 153 [.bool b,zl q.num,zb q.num,nL d,.bool false]=some [zl (sgnQ b q).num,zb (sgnQ b q).num,nL d',.bool false]/\dn d'=(sgnQ b q).den:=by
 cases b with
 |true =>
  refine⟨(-q).den,?_,qb _⟩;rw[qlc,Ac,d_neg hq hd];simp only[rr];rfl
 |false=>exact⟨d,by rw[qlc,Ab];rfl,hd⟩
theorem qni(hS:Sq ss bs r){i:Nat}(hi:i<ss.length):∃v d,evF EnD (n+3) 151 (iF i::.str ss[i].who::iF ss[i].seq::iF ss[i].zone::iF ss[i].hour::.bool ss[i].buy::iF ss[i].qty::iF ss[i].qe::.str who::rL r []) =
  some (.str who::rL r [zl v.num,zb v.num,nL d,.bool false,.bool (okS r who ss i)])/\dn d=v.den/\(okS r who ss i=true->v=valS r who ss i):=by
 have eo:okS r who ss i=(!(decide (ss[i].who=who))||(decide (i<r.x.length)&&isNum (r.x.getD i [])&&pOk r ss[i].hour ss[i].zone)):=by unfold okS;rw[Ag hi]
 have ev:valS r who ss i=if ss[i].who=who then sgnQ ss[i].buy (r.xAt i*prP r ss[i].hour ss[i].zone)else 0:=by unfold valS;rw[Ag hi]
 rw[eo,ev];by_cases hw:ss[i].who=who
 ·rw[Af hw,if_pos hw,Am,BR];have hb:(ss[i].who.toList==who.toList)=true:=by rw[toList_eq,Af hw]
  by_cases hx:i<r.x.length
  ·have hxl:=hS.x _ (Ah hx);have ex:r.x.getD i []=r.x[i]:=by rw[AG,Ag hx];rfl
   have exa:r.xAt i=rd r.x[i]:=by unfold ResV.xAt;rw[ex]
   obtain⟨d1,p1,p2⟩:=qgh (n:=n+1) hxl;obtain⟨d2,p3,p4⟩:=qeq (n:=n) hS ss[i].hour ss[i].zone;have b1:Bd 1024 (rd r.x[i]):=q3c hxl;have b2:=q79 hS ss[i].hour ss[i].zone;have s1:Sz (rd r.x[i]):=b1.mono (by omega);have s2:Sz (prP r ss[i].hour ss[i].zone):=b2.mono (by omega);have s3:Sz (rd r.x[i]*prP r ss[i].hour ss[i].zone):=(b1.mul b2).mono (by omega);obtain⟨d3,p5,p6⟩:=qnh (n:=n) (b:=ss[i].buy) s3 (qb _);rw[Af hx,AB,ex,exa];refine⟨_,d3,?_,p6,λ_=>rfl⟩;rw[qhc,hb,Am,Ab,Aa,Ad,Ab,q9 hx,Ae,q8s hx,q2k,Ae,p1];simp only[rr];rw[p3];simp only[rr];rw[d_mul s1 s2 p2 p4];simp only[rr];rw[p5];simp only[rr];cases isNum r.x[i] <;> cases pOk r ss[i].hour ss[i].zone <;> rfl
  ·rw[Ad hx,Ck,Ck];refine⟨0,0,?_,rfl,λh=>by cases h⟩;rw[qhc,hb,Am,Ab,Aa,Af,Ac,q59,q4u,q3m]
 ·rw[Ad hw,if_neg hw,AV,Dc];refine⟨0,0,?_,rfl,λ_=>rfl⟩;rw[qhc,toList_eq,Ad hw,AV,Ac,q59,q4u,q3m]
theorem qeg(hS:Sq ss bs r){i:Nat}(hi:i<ss.length)(ho:okS r who ss i=true):Bd 2048 (valS r who ss i):=by
 unfold okS at ho;unfold valS;rw[Ag hi]at ho ⊢;simp only at ho ⊢;split
 ·rename_i hw;rw[Af hw,Am,BR,Ai,Ai,As]at ho;have hx:=ho.1.1;have ex:r.x.getD i []=r.x[i]:=by rw[AG,Ag hx];rfl
  have b1:Bd 1024 (r.xAt i):=by unfold ResV.xAt;rw[ex];exact q3c (hS.x _ (Ah hx))
  exact((b1.mul (q79 hS _ _)).sgnQ _).mono (by omega)
 ·exact q4w
theorem steps_run(hS:Sq ss bs r)(hn:300<=n):∃v d,evF EnD (n+4) 150 (.list 7 (ss.map StpV.fv)::.str who::rL r []) =
  some (.str who::rL r [zl v.num,zb v.num,nL d,.bool false,.bool ((List.range' 0 ss.length).all (okS r who ss))])/\dn d=v.den/\Bd (2+2049*ss.length) v/\((List.range' 0 ss.length).all (okS r who ss)=true->v=sumI (valS r who ss) 0 ss.length):=by
 have hl:=hS.ssl;obtain⟨q',d',e1,e2,e3,e4⟩:=qe1 (F:=λm i q d=>q5w.l3 (n+3) [] m (.str who::rL r [.list 1 [],.bool false,.list 1 [],.bool false,zl q.num,zb q.num,nL d,.bool false,.list 7 (ss.map StpV.fv),iF (ss.length:Int),iF (i:Int)])) (len:=ss.length) (f:=valS r who ss) (ok:=okS r who ss)
  (fin:=λq d ok=>some (.str who::rL r [zl q.num,zb q.num,nL d,.bool false,.bool ok])) 2048
  (λm i q d hi hq hd ho=>by
   show q5w.l3 (n+3) [] (m+1) _=_;obtain⟨v,dv,t1,t2,t3⟩:=qni (n:=n) (who:=who) hS hi;rw[ho]at t1;have hv:=t3 ho;subst hv;have sv:Sz (valS r who ss i):=(qeg hS hi ho).mono (by omega);rw[q5w.qm,Af,Ac,Aa,q9 hi];simp only[q2z hi,rr];rw[t1];simp only[rr];rw[Am,Ab,d_add hq sv hd t2];simp only[rr]
   rw[qc])
  (λm i q d hi hq hd ho=>by
   show q5w.l3 (n+3) [] (m+1) _=_;obtain⟨v,dv,t1,t2,t3⟩:=qni (n:=n) (who:=who) hS hi;rw[ho]at t1;rw[q5w.qm,Af,Ac,Aa,q9 hi];simp only[q2z hi,rr];rw[t1];simp only[rr]
   rw[AV,Ac])
  (λm q d hq hd=>by
   show q5w.l3 (n+3) [] (m+1) _=_
   rw[q5w.qm,Ad,Ab])
  (λi hi ho=>qeg hS hi ho) (by omega) ss.length 0 (n+3) 0 0 (by omega) (by omega) (q4w) rfl
 refine⟨q',d',?_,e2,e3,λh=>by rw[e4 h];grind⟩;simp only[q59,q4u,q3m]at e1;rw[qsi,Aa];exact e1
theorem qnj(hS:Sq ss bs r){b:BlkV}(hb:b∈bs){h:Nat}(hh:h<b.qty.length):∃d,evF EnD (n+3) 158 (iF h::iF b.qty[h]::rL r [.str b.who,iF b.seq,iF b.zone,.bool b.buy,iF b.qe,.list 1 (b.qty.map iF),iF b.parent,iF b.group]) =
  some (rL r [.str b.who,iF b.seq,iF b.zone,.bool b.buy,iF b.qe,.list 1 (b.qty.map iF),iF b.parent,iF b.group,zl (valQ r b h).num,zb (valQ r b h).num,nL d,.bool false,.bool (pOk r h b.zone)])/\dn d=(valQ r b h).den:=by
 obtain⟨z1,z2⟩:=hS.z b hb _ (Ah hh);have ev:valQ r b h=sgnQ b.buy (prP r h b.zone*((b.qty[h]:Int):Rat)):=by unfold valQ;rw[AG,Ag hh];rfl
 obtain⟨d2,p3,p4⟩:=qeq (n:=n) hS h b.zone;have b2:=q79 hS h b.zone;have b1:=q9n z1 z2;have s1:Sz (prP r h b.zone):=b2.mono (by omega);have s2:Sz ((b.qty[h]:Int):Rat):=b1.mono (by omega);obtain⟨d3,p5,p6⟩:=qnh (n:=n) (b:=b.buy) (q:=prP r h b.zone*((b.qty[h]:Int):Rat)) ((b2.mul b1).mono (by omega)) (qb _);rw[ev];refine⟨d3,?_,p6⟩;rw[qsl,p3];simp only[rr];rw[d_of z1 z2];simp only[rr];rw[d_mul s1 s2 p4 (qb _)];simp only[rr];rw[p5];simp only[rr]
theorem qef(hS:Sq ss bs r){b:BlkV}(hb:b∈bs)(h:Nat):Bd 1088 (valQ r b h):=by
 unfold valQ;have b2:=q79 hS h b.zone;by_cases hh:h<b.qty.length
 ·obtain⟨z1,z2⟩:=hS.z b hb _ (Ah hh);rw[AG,Ag hh];exact((b2.mul (q9n z1 z2)).sgnQ _).mono (by omega)
 ·rw[AG,DE (by omega)];exact((b2.mul (q9n (z:=0))).sgnQ _).mono (by omega)
theorem qtys_run(hS:Sq ss bs r){b:BlkV}(hb:b∈bs)(hn:300<=n):∃v d,evF EnD (n+4) 157 (.list 1 (b.qty.map iF)::rL r [.str b.who,iF b.seq,iF b.zone,.bool b.buy,iF b.qe,.list 1 (b.qty.map iF),iF b.parent,iF b.group]) =
  some (rL r [.str b.who,iF b.seq,iF b.zone,.bool b.buy,iF b.qe,.list 1 (b.qty.map iF),iF b.parent,iF b.group,zl v.num,zb v.num,nL d,.bool false,.bool ((List.range' 0 b.qty.length).all λh=>pOk r h b.zone)])/\dn d=v.den/\Bd (2+1089*256) v /\
   (((List.range' 0 b.qty.length).all λh=>pOk r h b.zone)=true->v=sumI (valQ r b) 0 b.qty.length):=by
 have hl:=hS.q b hb;obtain⟨q',d',e1,e2,e3,e4⟩:=qe1 (F:=λm i q d=>q5y.l3 (n+3) [] m (rL r [.str b.who,iF b.seq,iF b.zone,.bool b.buy,iF b.qe,.list 1 (b.qty.map iF),iF b.parent,iF b.group,.list 1 [],.bool false,.list 1 [],.bool false,zl q.num,zb q.num,nL d,.bool false,.list 1 (b.qty.map iF),iF (b.qty.length:Int),iF (i:Int)])) (len:=b.qty.length) (f:=valQ r b) (ok:=λh=>pOk r h b.zone)
  (fin:=λq d ok=>some (rL r [.str b.who,iF b.seq,iF b.zone,.bool b.buy,iF b.qe,.list 1 (b.qty.map iF),iF b.parent,iF b.group,zl q.num,zb q.num,nL d,.bool false,.bool ok])) 1088
  (λm i q d hi hq hd ho=>by
   show q5y.l3 (n+3) [] (m+1) _=_;obtain⟨dv,t1,t2⟩:=qnj (n:=n) hS hb hi;rw[ho]at t1;have sv:Sz (valQ r b i):=(qef hS hb i).mono (by omega);rw[q5y.qm,Af,Ac,Aa,q9 hi];simp only[q4j hi,rr];rw[t1];simp only[rr];rw[Am,Ab,d_add hq sv hd t2];simp only[rr]
   rw[qc])
  (λm i q d hi hq hd ho=>by
   show q5y.l3 (n+3) [] (m+1) _=_;obtain⟨dv,t1,t2⟩:=qnj (n:=n) hS hb hi;rw[ho]at t1;rw[q5y.qm,Af,Ac,Aa,q9 hi];simp only[q4j hi,rr];rw[t1];simp only[rr]
   rw[AV,Ac])
  (λm q d hq hd=>by
   show q5y.l3 (n+3) [] (m+1) _=_
   rw[q5y.qm,Ad,Ab])
  (λi hi ho=>qef hS hb i) (by omega) b.qty.length 0 (n+3) 0 0 (by omega) (by omega) (q4w) rfl
 refine⟨q',d',?_,e2,e3.mono (by omega),λh=>by rw[e4 h];grind⟩;simp only[q59,q4u,q3m]at e1;rw[qsk,Aa];exact e1
end
end
section
section
variable {g:q10} {ss:List StpV} {bs:List BlkV} {r:ResV} {n:Nat} {who:ByteArray}
theorem qhw(hS:Sq ss bs r){i:Nat}(hi:i<bs.length)(hn:300<=n):∃v d,evF EnD (n+5) 156 (iF i::.str bs[i].who::iF bs[i].seq::iF bs[i].zone::.bool bs[i].buy::iF bs[i].qe::.list 1 (bs[i].qty.map iF)::iF bs[i].parent::iF bs[i].group::.str who::rL r []) =
  some (.str who::rL r [zl v.num,zb v.num,nL d,.bool false,.bool (okB r who bs i)])/\dn d=v.den/\Bd (2+1089*256) v/\(okB r who bs i=true->v=valB r who bs i):=by
 have eo:okB r who bs i=(!(decide (bs[i].who=who))||(decide (i<r.accept.length)&&(!(r.accept.getD i false)||(List.range' 0 bs[i].qty.length).all λh=>pOk r h bs[i].zone))):=by unfold okB;rw[Ag hi]
 have ev:valB r who bs i=if bs[i].who=who then(if r.accept.getD i false=true then sumI (valQ r bs[i]) 0 bs[i].qty.length else 0)else 0:=by unfold valB;rw[Ag hi]
 rw[eo,ev];by_cases hw:bs[i].who=who
 ·have hb:(bs[i].who.toList==who.toList)=true:=by rw[toList_eq,Af hw]
  rw[Af hw,if_pos hw,Am,BR];by_cases hx:i<r.accept.length
  ·have ex:r.accept.getD i false=r.accept[i]:=by rw[AG,Ag hx];rfl
   rw[Af hx,AB,ex];cases ha:r.accept[i]with
   |false =>
    refine⟨0,0,?_,rfl,q4w,λ_=>by rw[if_neg (by simp)]⟩;rw[qea,hb,Am,Ab,Aa,Ad,Ab,q9 hx,Ae,q4z hx,q41,Ae,ha,AV,Ac,Dc,q59,q4u,q3m]
   |true =>
    obtain⟨v,d,t1,t2,t3,t4⟩:=qtys_run (n:=n) hS (Ah hi) hn;rw[Am,BR,if_pos rfl];refine⟨v,d,?_,t2,t3,t4⟩;rw[qea,hb,Am,Ab,Aa,Ad,Ab,q9 hx,Ae,q4z hx,q41,Ae,ha,Am,Ab,t1];simp only[rr]
  ·rw[Ad hx,Ck];refine⟨0,0,?_,rfl,q4w,λh=>by cases h⟩;rw[qea,hb,Am,Ab,Aa,Af,Ac,q59,q4u,q3m]
 ·rw[Ad hw,if_neg hw,AV,Dc];refine⟨0,0,?_,rfl,q4w,λ_=>rfl⟩;rw[qea,toList_eq,Ad hw,AV,Ac,q59,q4u,q3m]
theorem valB_bd(hS:Sq ss bs r)(hn:300<=n){i:Nat}(hi:i<bs.length)(ho:okB r who bs i=true):Bd (2+1089*256) (valB r who bs i):=by
 obtain⟨v,d,_,_,t3,t4⟩:=qhw (n:=n) (who:=who) hS hi hn;rw[<- t4 ho];exact t3
theorem qv3(hS:Sq ss bs r)(hn:300<=n):∃v d,evF EnD (n+6) 155 (.list 8 (bs.map BlkV.fv)::.str who::rL r []) =
  some (.str who::rL r [zl v.num,zb v.num,nL d,.bool false,.bool ((List.range' 0 bs.length).all (okB r who bs))])/\dn d=v.den/\Bd (2+278787*bs.length) v/\((List.range' 0 bs.length).all (okB r who bs)=true->v=sumI (valB r who bs) 0 bs.length):=by
 have hl:=hS.bsl;obtain⟨q',d',e1,e2,e3,e4⟩:=qe1 (F:=λm i q d=>q5x.l3 (n+5) [] m (.str who::rL r [.list 1 [],.bool false,.list 1 [],.bool false,zl q.num,zb q.num,nL d,.bool false,.list 8 (bs.map BlkV.fv),iF (bs.length:Int),iF (i:Int)])) (len:=bs.length) (f:=valB r who bs) (ok:=okB r who bs)
  (fin:=λq d ok=>some (.str who::rL r [zl q.num,zb q.num,nL d,.bool false,.bool ok])) (2+1089*256)
  (λm i q d hi hq hd ho=>by
   show q5x.l3 (n+5) [] (m+1) _=_;obtain⟨v,dv,t1,t2,t3,t4⟩:=qhw (n:=n) (who:=who) hS hi hn;rw[ho]at t1;have hv:=t4 ho;subst hv;have sv:Sz (valB r who bs i):=t3.mono (by omega);rw[q5x.qm,Af,Ac,Aa,q9 hi];simp only[q2g hi,rr];rw[t1];simp only[rr];rw[Am,Ab,d_add hq sv hd t2];simp only[rr]
   rw[qc])
  (λm i q d hi hq hd ho=>by
   show q5x.l3 (n+5) [] (m+1) _=_;obtain⟨v,dv,t1,t2,t3,t4⟩:=qhw (n:=n) (who:=who) hS hi hn;rw[ho]at t1;rw[q5x.qm,Af,Ac,Aa,q9 hi];simp only[q2g hi,rr];rw[t1];simp only[rr]
   rw[AV,Ac])
  (λm q d hq hd=>by
   show q5x.l3 (n+5) [] (m+1) _=_
   rw[q5x.qm,Ad,Ab])
  (λi hi ho=>valB_bd (n:=n) hS hn hi ho) (by omega) bs.length 0 (n+5) 0 0 (by omega) (by omega) (q4w) rfl
 refine⟨q',d',?_,e2,e3.mono (by omega),λh=>by rw[e4 h];grind⟩;simp only[q59,q4u,q3m]at e1;rw[qsj,Aa];exact e1
theorem qhx(hS:Sq ss bs r)(hn:300<=n):∃v d,evF EnD (n+7) 88 (.list 7 (ss.map StpV.fv)::.list 8 (bs.map BlkV.fv)::rL r [.str who]) =
  some [zl v.num,zb v.num,nL d,.bool false,.bool (okA ss bs r who)]/\dn d=v.den/\Bd 80000000 v/\(okA ss bs r who=true->v=amtV ss bs r who):=by
 obtain⟨v1,d1,a1,a2,a3,a4⟩:=steps_run (n:=n+2) (who:=who) hS (by omega);obtain⟨v2,d2,b1,b2,b3,b4⟩:=qv3 (n:=n) (who:=who) hS hn;have h1:=hS.ssl;have h2:=hS.bsl;have s1:Sz v1:=a3.mono (by omega);have s2:Sz v2:=b3.mono (by omega);have s3:Bd 80000000 (v1+v2):=(a3.add b3).mono (by omega);refine⟨v1+v2,(v1+v2).den,?_,qb _,s3,λh=>?_⟩
 ·rw[qsg,a1];simp only[rr];rw[b1];simp only[rr];rw[d_add s1 s2 a2 b2];simp only[rr];unfold okA;cases(List.range' 0 ss.length).all (okS r who ss) <;> rfl
 ·unfold okA at h;rw[Ai]at h;unfold amtV;rw[a4 h.1,b4 h.2]
theorem told_run{q:Rat}{d:Nat}(hq:Sz q)(hd:dn d=q.den)(b:Bool):evF EnD (n+2) 99 [zl q.num,zb q.num,nL d,.bool false,.bool b]=some (bif b then [sF (qx q),iF 0]else [sF [],iF 120]):=by
 cases b with
 |true =>
  rw[qlb,Am,Ab,d_text hq hd];simp only[rr]
 |false =>
  rw[qlb,AV,Ac];rfl
theorem qq4(hS:Sq ss bs r)(hn:300<=n):evF EnD (n+8) 31 (.list 7 (ss.map StpV.fv)::.list 8 (bs.map BlkV.fv)::rL r [.str who]) =
  some (bif okA ss bs r who then [sF (qx (amtV ss bs r who)),iF 0]else [sF [],iF 120]):=by
 obtain⟨v,d,a1,a2,a3,a4⟩:=qhx (n:=n) (who:=who) hS hn;rw[qsd,a1];simp only[rr];rw[told_run (a3.mono (by omega)) a2];cases h:okA ss bs r who with
 |true =>
  rw[a4 h];simp only[rr]
 |false=>simp only[rr]
theorem qeh(hS:Sq ss bs r){l:qz}{k:Nat}{h:Nat}(hh:h<r.f.length):∃v d,evF EnD (n+3) 160 (iF h::.list 1 (r.f[h].map sF)::iF k::rL r [iF l.src,iF l.dst,iF l.cap]) =
  some (iF k::rL r [iF l.src,iF l.dst,iF l.cap,zl v.num,zb v.num,nL d,.bool false,.bool (okR r l k h)])/\dn d=v.den/\Bd 3074 v/\(okR r l k h=true->v=valR r l k h):=by
 have ef:r.f.getD h []=r.f[h]:=by rw[AG,Ag hh];rfl
 by_cases hk:k<r.f[h].length
 ·have hx:=(hS.f _ (Ah hh)).2 _ (Ah hk);have ex:r.f[h].getD k []=r.f[h][k]:=by rw[AG,Ag hk];rfl
  have eo:okR r l k h=(isNum r.f[h][k]&&pOk r h l.src&&pOk r h l.dst):=by unfold okR;rw[ef,ex,Af hk,AB]
  have ev:valR r l k h=rd r.f[h][k]*(prP r h l.dst-prP r h l.src):=by unfold valR ResV.fAt;rw[ef,ex]
  obtain⟨d1,p1,p2⟩:=qgh (n:=n+1) hx;obtain⟨d2,p3,p4⟩:=qeq (n:=n) hS h l.src;obtain⟨d3,p5,p6⟩:=qeq (n:=n) hS h l.dst;have b1:Bd 1024 (rd r.f[h][k]):=q3c hx;have b2:=q79 hS h l.src;have b3:=q79 hS h l.dst;have s1:Sz (rd r.f[h][k]):=b1.mono (by omega);have s2:Sz (prP r h l.src):=b2.mono (by omega);have s3:Sz (prP r h l.dst):=b3.mono (by omega);have b4:=b3.sub b2;have s4:Sz (prP r h l.dst-prP r h l.src):=b4.mono (by omega);refine⟨_,_,?_,qb _,(b1.mul b4).mono (by omega),λ_=>ev.symm⟩;rw[qld,Aa,Ad,Ab,q9 hk,Ae,q8s hk,q2k,Ae,p1];simp only[rr];rw[p3];simp only[rr];rw[p5];simp only[rr];rw[d_sub s3 s2 p6 p4];simp only[rr];rw[d_mul s1 s4 p2 (qb _)];simp only[rr];rw[eo];cases isNum r.f[h][k] <;> cases pOk r h l.src <;> cases pOk r h l.dst <;> rfl
 ·have eo:okR r l k h=false:=by unfold okR;rw[ef,Ad hk];rfl
  rw[eo];refine⟨0,0,?_,rfl,q4w,λh=>by cases h⟩;rw[qld,Aa,Af,Ac,q59,q4u,q3m]
theorem qmw(hS:Sq ss bs r){l:qz}{k:Nat}(hn:300<=n):∃v d,evF EnD (n+5) 89 (iF l.src::iF l.dst::iF l.cap::rL r [iF k]) =
  some [zl v.num,zb v.num,nL d,.bool false,.bool (q9u r l k)]/\dn d=v.den/\Bd 80000000 v/\(q9u r l k=true->v=q56 r l k):=by
 have hl:=hS.fl;obtain⟨q',d',e1,e2,e3,e4⟩:=qe1 (F:=λm i q d=>q5z.l3 (n+3) [] m (iF k::rL r [iF l.src,iF l.dst,iF l.cap,.list 1 [],.bool false,.list 1 [],.bool false,zl q.num,zb q.num,nL d,.bool false,.list 1 (r.f.map rowF),iF (r.f.length:Int),iF (i:Int)])) (len:=r.f.length) (f:=valR r l k) (ok:=okR r l k)
  (fin:=λq d ok=>some (iF k::rL r [iF l.src,iF l.dst,iF l.cap,zl q.num,zb q.num,nL d,.bool false,.bool ok])) 3074
  (λm i q d hi hq hd ho=>by
   show q5z.l3 (n+3) [] (m+1) _=_;obtain⟨v,dv,t1,t2,t3,t4⟩:=qeh (n:=n) (l:=l) (k:=k) hS hi;rw[ho]at t1;have hv:=t4 ho;subst hv;have sv:Sz (valR r l k i):=t3.mono (by omega);rw[q5z.qm,Af,Ac,Aa,q9 hi];simp only[q2f hi,rr];rw[t1];simp only[rr];rw[Am,Ab,d_add hq sv hd t2];simp only[rr]
   rw[qc])
  (λm i q d hi hq hd ho=>by
   show q5z.l3 (n+3) [] (m+1) _=_;obtain⟨v,dv,t1,t2,t3,t4⟩:=qeh (n:=n) (l:=l) (k:=k) hS hi;rw[ho]at t1;rw[q5z.qm,Af,Ac,Aa,q9 hi];simp only[q2f hi,rr];rw[t1];simp only[rr]
   rw[AV,Ac])
  (λm q d hq hd=>by
   show q5z.l3 (n+3) [] (m+1) _=_
   rw[q5z.qm,Ad,Ab])
  (λi hi ho=>by
   obtain⟨v,dv,t1,t2,t3,t4⟩:=qeh (n:=n) (l:=l) (k:=k) hS hi;rw[<- t4 ho]
   exact t3) (by omega) r.f.length 0 (n+3) 0 0 (by omega) (by omega) (q4w) rfl
 have e5:evF EnD (n+4) 159 (.list 1 (r.f.map rowF)::iF k::rL r [iF l.src,iF l.dst,iF l.cap])=some (iF k::rL r [iF l.src,iF l.dst,iF l.cap,zl q'.num,zb q'.num,nL d',.bool false,.bool (q9u r l k)]):=by
  simp only[q59,q4u,q3m]at e1;rw[qsm,Aa];exact e1
 refine⟨q',d',?_,e2,e3.mono (by omega),λh=>by rw[e4 h];unfold q56;grind⟩;rw[qsh,e5];simp only[rr]
theorem lin_at{L:List qz}{i:Nat}(h:i<L.length)(c:Nat):at' (L.map qz.fv) i c=[iF L[i].src,iF L[i].dst,iF L[i].cap][c]?:=by
 rw[q2a,Ag h];rfl
end
end
end Rf
