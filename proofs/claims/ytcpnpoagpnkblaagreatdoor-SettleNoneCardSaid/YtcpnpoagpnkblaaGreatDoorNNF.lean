/- Merged: Amv Am1 Am2 Am3 Nms Okk Pst. -/
import Derived.Test.YtcpnpoagpnkblaaGreatDoorNMW
import Derived.Test.YtcpnpoagpnkblaaGreatDoorNNE
import Derived.Test.YtcpnpoagpnkblaaGreatDoorNMY
set_option linter.unusedVariables false
set_option linter.unusedSimpArgs false
set_option maxHeartbeats 4000000
namespace Rf
open Go
noncomputable section
section
def sumI(f:Nat->Rat):Nat->Nat->Rat
 |_,0=>0
 |i,c+1=>f i+sumI f (i+1) c
def hasP(r:ResV)(h z:Int):Bool:=decide (0<=h)&&decide (h<(r.p.length:Int))&&decide (0<=z)&&decide (z<((r.p.getD h.toNat []).length:Int))
def pOk(r:ResV)(h z:Int):Bool:=hasP r h z&&isNum ((r.p.getD h.toNat []).getD z.toNat [])
def prP(r:ResV)(h z:Int):Rat:=if hasP r h z=true then r.pAt h.toNat z.toNat else 0
def sgnQ(buy:Bool)(q:Rat):Rat:=bif buy then -q else q
def okS(r:ResV)(who:ByteArray)(ss:List StpV)(i:Nat):Bool:=match ss[i]? with
 |some s=>!(decide (s.who=who))||(decide (i<r.x.length)&&isNum (r.x.getD i [])&&pOk r s.hour s.zone)
 |none=>true
def valS(r:ResV)(who:ByteArray)(ss:List StpV)(i:Nat):Rat:=match ss[i]? with
 |some s=>if s.who=who then sgnQ s.buy (r.xAt i*prP r s.hour s.zone)else 0
 |none=>0
def valQ(r:ResV)(b:BlkV)(h:Nat):Rat:=sgnQ b.buy (prP r h b.zone*((b.qty.getD h 0:Int):Rat))
def okB(r:ResV)(who:ByteArray)(bs:List BlkV)(i:Nat):Bool:=match bs[i]? with
 |some b=>!(decide (b.who=who))||(decide (i<r.aq.length)&&(!(r.aq.getD i false)||(List.range' 0 b.qty.length).all λh=>pOk r h b.zone))
 |none=>true
def valB(r:ResV)(who:ByteArray)(bs:List BlkV)(i:Nat):Rat:=match bs[i]? with
 |some b=>if b.who=who then(if r.aq.getD i false=true then sumI (valQ r b) 0 b.qty.length else 0)else 0
 |none=>0
def okA(ss:List StpV)(bs:List BlkV)(r:ResV)(who:ByteArray):Bool:=(List.range' 0 ss.length).all (okS r who ss)&&(List.range' 0 bs.length).all (okB r who bs)
def amtV(ss:List StpV)(bs:List BlkV)(r:ResV)(who:ByteArray):Rat:=sumI (valS r who ss) 0 ss.length+sumI (valB r who bs) 0 bs.length
def okR(r:ResV)(l:qw)(k h:Nat):Bool:=decide (k<(r.f.getD h []).length)&&isNum ((r.f.getD h []).getD k [])&&pOk r h l.src&&pOk r h l.dst
def valR(r:ResV)(l:qw)(k h:Nat):Rat:=r.fAt h k*(prP r h l.dst-prP r h l.src)
def q49(r:ResV)(l:qw)(k:Nat):Rat:=sumI (valR r l k) 0 r.f.length
def q9k(r:ResV)(l:qw)(k:Nat):Bool:=(List.range' 0 r.f.length).all (okR r l k)
theorem qdl{F:Nat->Nat->Rat->Nat->Res}{len:Nat}{f:Nat->Rat}{ok:Nat->Bool}{fin:Rat->Nat->Bool->Res}(K:Nat)
  (hs:∀m i q d,i<len->Sz q->dn d=q.den->ok i=true->F (m+1) i q d=F m (i+1) (q+f i) (q+f i).den)
  (hn:∀m i q d,i<len->Sz q->dn d=q.den->ok i=false->F (m+1) i q d=fin q d false)
  (he:∀m q d,Sz q->dn d=q.den->F (m+1) len q d=fin q d true)
  (hb:∀i,i<len->ok i=true->Bd K (f i)) (hK:2+(K+1)*len<=1000000000) :
  ∀(c i m:Nat) (q:Rat) (d:Nat),i+c=len->c<m->Bd (2+(K+1)*i) q->dn d=q.den ->
   ∃q' d',F m i q d=fin q' d' ((List.range' i c).all ok)/\dn d'=q'.den/\Bd (2+(K+1)*len) q'/\((List.range' i c).all ok=true->q'=q+sumI f i c):=by
 intro c
 induction c with
 |zero =>
  intro i m q d hi hm hq hd;obtain⟨m,rfl⟩:=qSx m;obtain rfl:i=len:=by omega
  exact⟨q,d,he m q d (hq.mono hK) hd,hd,hq,λ_=>by unfold sumI;grind⟩
 |succ c ih =>
  intro i m q d hi hm hq hd;obtain⟨m,rfl⟩:=qSx m;have hle:2+(K+1)*i<=2+(K+1)*len:=ES (BE _ (by omega)) _;have hle2:2+(K+1)*(i+1)<=2+(K+1)*len:=ES (BE _ (by omega)) _;have hq1:Sz q:=hq.mono (Bb hle hK);rw[BS,Bk];cases ho:ok i with
  |false =>
   exact⟨q,d,by rw[hn m i q d (by omega) hq1 hd ho];rfl,hd,hq.mono hle,λh=>by cases h⟩
  |true =>
   have hb':Bd (2+(K+1)*(i+1)) (q+f i):=(hq.add (hb i (by omega) ho)).mono (by rw[Cl];omega);obtain⟨q',d',e1,e2,e3,e4⟩:=ih (i+1) m (q+f i) _ (by omega) (by omega) hb' (qc _);refine⟨q',d',by rw[hs m i q d (by omega) hq1 hd ho,e1];rfl,e2,e3,λh=>?_⟩;rw[e4 h];show _=q+(f i+sumI f (i+1) c)
   grind
theorem qfu{F:Nat->Nat->Rat->Res}{len:Nat}{f:Nat->Rat}{ok:Nat->Bool}{fin:Rat->Res}{stop:Res}(K B:Nat)
  (hs:∀m i q,i<len->Sz q->ok i=true->F (m+1) i q=F m (i+1) (q+f i))
  (hn:∀m i q,i<len->Sz q->ok i=false->F (m+1) i q=stop)
  (he:∀m q,Sz q->F (m+1) len q=fin q)
  (hb:∀i,i<len->ok i=true->Bd K (f i)) (hK:B+(K+1)*len<=1000000000) :
  ∀(c i m:Nat) (q:Rat),i+c=len->c<m->Bd (B+(K+1)*i) q ->
   F m i q=(bif(List.range' i c).all ok then fin (q+sumI f i c)else stop)/\((List.range' i c).all ok=true->Bd (B+(K+1)*len) (q+sumI f i c)):=by
 intro c
 induction c with
 |zero =>
  intro i m q hi hm hq;obtain⟨m,rfl⟩:=qSx m;obtain rfl:i=len:=by omega
  have e:q+sumI f i 0=q:=by unfold sumI;grind
  rw[e];exact⟨he m q (hq.mono hK),λ_=>hq⟩
 |succ c ih =>
  intro i m q hi hm hq;obtain⟨m,rfl⟩:=qSx m;have hle:B+(K+1)*i<=B+(K+1)*len:=ES (BE _ (by omega)) _;have hq1:Sz q:=hq.mono (Bb hle hK);rw[BS,Bk];cases ho:ok i with
  |false =>
   exact⟨by rw[hn m i q (by omega) hq1 ho];rfl,λh=>by cases h⟩
  |true =>
   have hb':Bd (B+(K+1)*(i+1)) (q+f i):=(hq.add (hb i (by omega) ho)).mono (by rw[Cl];omega);obtain⟨e1,e2⟩:=ih (i+1) m (q+f i) (by omega) (by omega) hb';have e:q+sumI f i (c+1)=q+f i+sumI f (i+1) c:=by
    show q+(f i+sumI f (i+1) c)=_
    grind
   rw[hs m i q (by omega) hq1 ho,e];exact⟨e1,e2⟩
section
variable {n:Nat} {q r:Rat} {d e:Nat}
theorem d_of{z:Int}(h1:-9223372036854775808<=z)(h2:z<=9223372036854775807):evF EnD (n+1) 111 [iF z]=some [zl ((z:Rat)).num,zb ((z:Rat)).num,nL ((z:Rat)).den,.bool false]:=by
 have:evF EnD (n+1) 111 [iF z]=evF EnA (n+1) 111 [iF z]:=by kernel_rfl
 rw[this,a_of h1 h2]
theorem d_add(hq:Sz q)(hr:Sz r)(hd:dn d=q.den)(he:dn e=r.den):evF EnD (n+1) 113 [zl (q).num,zb (q).num,nL (d),.bool false,zl (r).num,zb (r).num,nL (e),.bool false]=some [zl (q+r).num,zb (q+r).num,nL (q+r).den,.bool false]:=by
 have:evF EnD (n+1) 113 [zl (q).num,zb (q).num,nL (d),.bool false,zl (r).num,zb (r).num,nL (e),.bool false]=evF EnA (n+1) 113 [zl (q).num,zb (q).num,nL (d),.bool false,zl (r).num,zb (r).num,nL (e),.bool false]:=by kernel_rfl
 rw[this,a_add hq hr hd he]
theorem d_sub(hq:Sz q)(hr:Sz r)(hd:dn d=q.den)(he:dn e=r.den):evF EnD (n+1) 112 [zl (q).num,zb (q).num,nL (d),.bool false,zl (r).num,zb (r).num,nL (e),.bool false]=some [zl (q-r).num,zb (q-r).num,nL (q-r).den,.bool false]:=by
 have:evF EnD (n+1) 112 [zl (q).num,zb (q).num,nL (d),.bool false,zl (r).num,zb (r).num,nL (e),.bool false]=evF EnA (n+1) 112 [zl (q).num,zb (q).num,nL (d),.bool false,zl (r).num,zb (r).num,nL (e),.bool false]:=by kernel_rfl
 rw[this,a_sub hq hr hd he]
theorem d_mul(hq:Sz q)(hr:Sz r)(hd:dn d=q.den)(he:dn e=r.den):evF EnD (n+1) 154 [zl (q).num,zb (q).num,nL (d),.bool false,zl (r).num,zb (r).num,nL (e),.bool false]=some [zl (q*r).num,zb (q*r).num,nL (q*r).den,.bool false]:=by
 have:evF EnD (n+1) 154 [zl (q).num,zb (q).num,nL (d),.bool false,zl (r).num,zb (r).num,nL (e),.bool false]=evF EnA (n+1) 154 [zl (q).num,zb (q).num,nL (d),.bool false,zl (r).num,zb (r).num,nL (e),.bool false]:=by kernel_rfl
 rw[this,a_mul hq hr hd he]
theorem d_neg(hq:Sz q)(hd:dn d=q.den):evF EnD (n+1) 169 [zl (q).num,zb (q).num,nL (d),.bool false]=some [zl (-q).num,zb (-q).num,nL (-q).den,.bool false]:=by
 have:evF EnD (n+1) 169 [zl (q).num,zb (q).num,nL (d),.bool false]=evF EnA (n+1) 169 [zl (q).num,zb (q).num,nL (d),.bool false]:=by kernel_rfl
 rw[this,a_neg hq hd]
theorem qfv{t:Txt}(hl:t.length<=256):∃d,evF EnD (n+1) 118 [sF t]=some [zl (rd t).num,zb (rd t).num,nL d,.bool false,iF (if isNum t=true then 0 else 10)]/\dn d=(rd t).den:=by
 have:evF EnD (n+1) 118 [sF t]=evF EnA (n+1) 118 [sF t]:=by kernel_rfl
 rw[this];cases h:pr t with
 |some q =>
  refine⟨q.den,?_,?_⟩
  ·rw[qb2 h,rd_some h];unfold isNum;rw[h];rfl
  ·rw[rd_some h,qc]
 |none =>
  have e:rd t=0:=by unfold rd;rw[h];rfl
  refine⟨0,?_,?_⟩
  ·rw[a_bad h,e];unfold isNum;rw[h,q3h,show zl (0:Rat).num=nL 0 from rfl,q3h];rfl
  ·rw[e];rfl
end
end
section
structure Sq(ss:List StpV)(bs:List BlkV)(r:ResV):Prop where
 ssl:ss.length<=256
 bsl:bs.length<=256
 acl:r.aq.length<=256
 xl:r.x.length<=256
 fl:r.f.length<=256
 pl:r.p.length<=256
 x:∀t,t∈r.x->t.length<=256
 f:∀l,l∈r.f->Few l
 p:∀l,l∈r.p->Few l
 q:∀b,b∈bs->b.qty.length<=256
 z:∀b,b∈bs->∀q,q∈b.qty->-9223372036854775808<=q/\q<=9223372036854775807
theorem q4z:zl (0:Rat).num=.list 1 []:=by rw[show zl (0:Rat).num=nL 0 from rfl,q3h]
theorem q4m:zb (0:Rat).num=.bool false:=rfl
theorem q71{k:Nat}(hk:1<=k:=by omega):Bd k 0:=⟨Fm k,by show 1<2^k;exact Ey (by omega)⟩
theorem q7o{z:Int}(h1:-9223372036854775808<=z:=by omega)(h2:z<=9223372036854775807:=by omega):Bd 64 (z:Rat):=Bd.int (k:=64) (by rw[show(2:Nat)^64=18446744073709551616 from rfl];omega) (by omega)
theorem Bd.sgnQ{k:Nat}{q:Rat}(h:Bd k q)(b:Bool):Bd k (sgnQ b q):=by
 cases b with
 |true=>exact h.neg
 |false=>exact h
section
variable {ss:List StpV} {bs:List BlkV} {r:ResV} {n:Nat} {who:ByteArray}
theorem q6w{α:Type}{P:List (List α)}{k:Nat}(h:k<P.length):P.getD k []=P[k]:=by rw[AD,Ag h];rfl
theorem q6x(hS:Sq ss bs r)(h z:Int):Bd 1024 (prP r h z):=by
 unfold prP;split
 ·rename_i hp;unfold hasP at hp;simp only[Ai,At]at hp;obtain⟨⟨⟨h1,h2⟩,h3⟩,h4⟩:=hp;have k1:h.toNat<r.p.length:=by omega
  rw[q6w k1]at h4;have k2:z.toNat<r.p[h.toNat].length:=by omega
  have hf:=(hS.p _ (Ah k1)).2 _ (Ah k2);unfold ResV.pAt;rw[q6w k1,AD,Ag k2];exact q35 hf
 ·exact q71
theorem qe7(hS:Sq ss bs r)(h z:Int):∃d,evF EnD (n+2) 152 (rL r [iF h,iF z])=some [zl (prP r h z).num,zb (prP r h z).num,nL d,.bool false,.bool (pOk r h z)]/\dn d=(prP r h z).den:=by
 have no:hasP r h z=false->prP r h z=0/\pOk r h z=false:=λq=>by
  unfold prP pOk;rw[q];exact⟨rfl,rfl⟩
 have nf:hasP r h z=false->evF EnD (n+2) 152 (rL r [iF h,iF z])=some [.list 1 [],.bool false,.list 1 [],.bool false,.bool false]->∃d,evF EnD (n+2) 152 (rL r [iF h,iF z])=some [zl (prP r h z).num,zb (prP r h z).num,nL d,.bool false,.bool (pOk r h z)]/\dn d=(prP r h z).den:=λq e=>by
  obtain⟨e1,e2⟩:=no q;refine⟨0,?_,?_⟩
  ·rw[e,e1,e2,q4z,q4m,q3h]
  ·rw[e1];rfl
 by_cases c1:h<0
 ·refine nf (by unfold hasP;rw[Ad (p:=0<=h) (by omega)];rfl) ?_;rw[qbp,Af c1,Ac]
 by_cases c2:h<(r.p.length:Int)
 ·by_cases c3:z<0
  ·refine nf (by unfold hasP;rw[Ad (p:=0<=z) (by omega),CE];rfl) ?_;rw[qbp,Ad c1,Ab,Aa,Ad,Ab,Af c3,Ac]
  ·obtain⟨k,rfl⟩:∃k:Nat,h=k:=⟨h.toNat,by omega⟩;obtain⟨j,rfl⟩:∃j:Nat,z=j:=⟨z.toNat,by omega⟩;have k1:k<r.p.length:=by omega
   by_cases c4:j<r.p[k].length
   ·have hf:=(hS.p _ (Ah k1)).2 _ (Ah c4);have hp:hasP r k j=true:=by
     unfold hasP;rw[show((k:Int)).toNat=k from rfl,q6w k1];simp only[Ai,At];omega
    have e1:prP r k j=rd r.p[k][j]:=by
     unfold prP;rw[if_pos hp];unfold ResV.pAt;rw[show((k:Int)).toNat=k from rfl,show((j:Int)).toNat=j from rfl,q6w k1,AD,Ag c4];rfl
    have e2:pOk r k j=isNum r.p[k][j]:=by
     unfold pOk;rw[hp,AA,show((k:Int)).toNat=k from rfl,show((j:Int)).toNat=j from rfl,q6w k1,AD,Ag c4];rfl
    obtain⟨d,d1,d2⟩:=qfv (n:=n) hf;rw[e1,e2];refine⟨d,?_,d2⟩;rw[qbp,Ad c1,Ab,Aa,Ad,Ab,Ad c3,Ab,q9 k1,Ae,q2h k1,qx,Ae,Aa,Ad,Ab,Ae,q2h k1,qx,Ae,Aa,q9 c4,Ae,q9n c4,q2j,Ae,d1];simp only[rr];cases isNum r.p[k][j] <;> rfl
   ·refine nf (by unfold hasP;rw[show((k:Int)).toNat=k from rfl,q6w k1,Ad (p:=(j:Int)<(r.p[k].length:Int)) (by omega),CE]) ?_;rw[qbp,Ad c1,Ab,Aa,Ad,Ab,Ad c3,Ab,q9 k1,Ae,q2h k1,qx,Ae,Aa,Af,Ac]
 ·refine nf (by unfold hasP;rw[Ad c2,CE,Cj,Cj]) ?_;rw[qbp,Ad c1,Ab,Aa,Af,Ac]
theorem qmg{b:Bool}{q:Rat}{d:Nat}(hq:Sz q)(hd:dn d=q.den):∃d',evF EnD (n+2) 153 [.bool b,zl q.num,zb q.num,nL d,.bool false]=some [zl (sgnQ b q).num,zb (sgnQ b q).num,nL d',.bool false]/\dn d'=(sgnQ b q).den:=by
 cases b with
 |true =>
  refine⟨(-q).den,?_,qc _⟩;rw[qkd,Ac,d_neg hq hd];simp only[rr];rfl
 |false=>exact⟨d,by rw[qkd,Ab];rfl,hd⟩
theorem qmh(hS:Sq ss bs r){i:Nat}(hi:i<ss.length):∃v d,evF EnD (n+3) 151 (iF i::.str ss[i].who::iF ss[i].seq::iF ss[i].zone::iF ss[i].hour::.bool ss[i].buy::iF ss[i].qty::iF ss[i].qh::.str who::rL r []) =
  some (.str who::rL r [zl v.num,zb v.num,nL d,.bool false,.bool (okS r who ss i)])/\dn d=v.den/\(okS r who ss i=true->v=valS r who ss i):=by
 have eo:okS r who ss i=(!(decide (ss[i].who=who))||(decide (i<r.x.length)&&isNum (r.x.getD i [])&&pOk r ss[i].hour ss[i].zone)):=by unfold okS;rw[Ag hi]
 have ev:valS r who ss i=if ss[i].who=who then sgnQ ss[i].buy (r.xAt i*prP r ss[i].hour ss[i].zone)else 0:=by unfold valS;rw[Ag hi]
 rw[eo,ev];by_cases hw:ss[i].who=who
 ·rw[Af hw,if_pos hw,Ao,BT];have hb:(ss[i].who.toList==who.toList)=true:=by rw[toList_eq,Af hw]
  by_cases hx:i<r.x.length
  ·have hxl:=hS.x _ (Ah hx);have ex:r.x.getD i []=r.x[i]:=by rw[AD,Ag hx];rfl
   have exa:r.xAt i=rd r.x[i]:=by unfold ResV.xAt;rw[ex]
   obtain⟨d1,p1,p2⟩:=qfv (n:=n+1) hxl;obtain⟨d2,p3,p4⟩:=qe7 (n:=n) hS ss[i].hour ss[i].zone;have b1:Bd 1024 (rd r.x[i]):=q35 hxl;have b2:=q6x hS ss[i].hour ss[i].zone;have s1:Sz (rd r.x[i]):=b1.mono;have s2:Sz (prP r ss[i].hour ss[i].zone):=b2.mono;have s3:Sz (rd r.x[i]*prP r ss[i].hour ss[i].zone):=(b1.mul b2).mono;obtain⟨d3,p5,p6⟩:=qmg (n:=n) (b:=ss[i].buy) s3 (qc _);rw[Af hx,AA,ex,exa];refine⟨_,d3,?_,p6,λ_=>rfl⟩;rw[qgm,hb,Ao,Ab,Aa,Ad,Ab,q9 hx,Ae,q9n hx,q2j,Ae,p1];simp only[rr];rw[p3];simp only[rr];rw[d_mul s1 s2 p2 p4];simp only[rr];rw[p5];simp only[rr];cases isNum r.x[i] <;> cases pOk r ss[i].hour ss[i].zone <;> rfl
  ·rw[Ad hx,Cj,Cj];refine⟨0,0,?_,rfl,λh=>by cases h⟩;rw[qgm,hb,Ao,Ab,Aa,Af,Ac,q4z,q4m,q3h]
 ·rw[Ad hw,if_neg hw,AX,CY];refine⟨0,0,?_,rfl,λ_=>rfl⟩;rw[qgm,toList_eq,Ad hw,AX,Ac,q4z,q4m,q3h]
theorem qgr(hS:Sq ss bs r){i:Nat}(hi:i<ss.length)(ho:okS r who ss i=true):Bd 2048 (valS r who ss i):=by
 unfold okS at ho;unfold valS;rw[Ag hi]at ho ⊢;simp only at ho ⊢;split
 ·rename_i hw;rw[Af hw,Ao,BT,Ai,Ai,At]at ho;have hx:=ho.1.1;have ex:r.x.getD i []=r.x[i]:=by rw[AD,Ag hx];rfl
  have b1:Bd 1024 (r.xAt i):=by unfold ResV.xAt;rw[ex];exact q35 (hS.x _ (Ah hx))
  exact((b1.mul (q6x hS _ _)).sgnQ _).mono
 ·exact q71
theorem steps_run(hS:Sq ss bs r)(hn:300<=n):∃v d,evF EnD (n+4) 150 (.list 7 (ss.map StpV.fv)::.str who::rL r []) =
  some (.str who::rL r [zl v.num,zb v.num,nL d,.bool false,.bool ((List.range' 0 ss.length).all (okS r who ss))])/\dn d=v.den/\Bd (2+2049*ss.length) v/\((List.range' 0 ss.length).all (okS r who ss)=true->v=sumI (valS r who ss) 0 ss.length):=by
 have hl:=hS.ssl;obtain⟨q',d',e1,e2,e3,e4⟩:=qdl (F:=λm i q d=>q5i.l3 (n+3) [] m (.str who::rL r [.list 1 [],.bool false,.list 1 [],.bool false,zl q.num,zb q.num,nL d,.bool false,.list 7 (ss.map StpV.fv),iF (ss.length:Int),iF (i:Int)])) (len:=ss.length) (f:=valS r who ss) (ok:=okS r who ss)
  (fin:=λq d ok=>some (.str who::rL r [zl q.num,zb q.num,nL d,.bool false,.bool ok])) 2048
  (λm i q d hi hq hd ho=>by
   show q5i.l3 (n+3) [] (m+1) _=_;obtain⟨v,dv,t1,t2,t3⟩:=qmh (n:=n) (who:=who) hS hi;rw[ho]at t1;have hv:=t3 ho;subst hv;have sv:Sz (valS r who ss i):=(qgr hS hi ho).mono;rw[q5i.qq,Af,Ac,Aa,q9 hi];simp only[q36 hi,rr];rw[t1];simp only[rr];rw[Ao,Ab,d_add hq sv hd t2];simp only[rr]
   rw[qd (by omega)])
  (λm i q d hi hq hd ho=>by
   show q5i.l3 (n+3) [] (m+1) _=_;obtain⟨v,dv,t1,t2,t3⟩:=qmh (n:=n) (who:=who) hS hi;rw[ho]at t1;rw[q5i.qq,Af,Ac,Aa,q9 hi];simp only[q36 hi,rr];rw[t1];simp only[rr]
   rw[AX,Ac])
  (λm q d hq hd=>by
   show q5i.l3 (n+3) [] (m+1) _=_
   rw[q5i.qq,Ad,Ab])
  (λi hi ho=>qgr hS hi ho) (by omega) ss.length 0 (n+3) 0 0 (by omega) (by omega) (q71) rfl
 refine⟨q',d',?_,e2,e3,λh=>by rw[e4 h];grind⟩;simp only[q4z,q4m,q3h]at e1;rw[qrb,Aa];exact e1
theorem qmi(hS:Sq ss bs r){b:BlkV}(hb:b∈bs){h:Nat}(hh:h<b.qty.length):∃d,evF EnD (n+3) 158 (iF h::iF b.qty[h]::rL r [.str b.who,iF b.seq,iF b.zone,.bool b.buy,iF b.qh,.list 1 (b.qty.map iF),iF b.pq,iF b.gq]) =
  some (rL r [.str b.who,iF b.seq,iF b.zone,.bool b.buy,iF b.qh,.list 1 (b.qty.map iF),iF b.pq,iF b.gq,zl (valQ r b h).num,zb (valQ r b h).num,nL d,.bool false,.bool (pOk r h b.zone)])/\dn d=(valQ r b h).den:=by
 obtain⟨z1,z2⟩:=hS.z b hb _ (Ah hh);have ev:valQ r b h=sgnQ b.buy (prP r h b.zone*((b.qty[h]:Int):Rat)):=by unfold valQ;rw[AD,Ag hh];rfl
 obtain⟨d2,p3,p4⟩:=qe7 (n:=n) hS h b.zone;have b2:=q6x hS h b.zone;have b1:=q7o z1 z2;have s1:Sz (prP r h b.zone):=b2.mono;have s2:Sz ((b.qty[h]:Int):Rat):=b1.mono;obtain⟨d3,p5,p6⟩:=qmg (n:=n) (b:=b.buy) (q:=prP r h b.zone*((b.qty[h]:Int):Rat)) ((b2.mul b1).mono) (qc _);rw[ev];refine⟨d3,?_,p6⟩;rw[qre,p3];simp only[rr];rw[d_of z1 z2];simp only[rr];rw[d_mul s1 s2 p4 (qc _)];simp only[rr];rw[p5];simp only[rr]
theorem qgq(hS:Sq ss bs r){b:BlkV}(hb:b∈bs)(h:Nat):Bd 1088 (valQ r b h):=by
 unfold valQ;have b2:=q6x hS h b.zone;by_cases hh:h<b.qty.length
 ·obtain⟨z1,z2⟩:=hS.z b hb _ (Ah hh);rw[AD,Ag hh];exact((b2.mul (q7o z1 z2)).sgnQ _).mono
 ·rw[AD,Di (by omega)];exact((b2.mul (q7o (z:=0))).sgnQ _).mono
theorem qtys_run(hS:Sq ss bs r){b:BlkV}(hb:b∈bs)(hn:300<=n):∃v d,evF EnD (n+4) 157 (.list 1 (b.qty.map iF)::rL r [.str b.who,iF b.seq,iF b.zone,.bool b.buy,iF b.qh,.list 1 (b.qty.map iF),iF b.pq,iF b.gq]) =
  some (rL r [.str b.who,iF b.seq,iF b.zone,.bool b.buy,iF b.qh,.list 1 (b.qty.map iF),iF b.pq,iF b.gq,zl v.num,zb v.num,nL d,.bool false,.bool ((List.range' 0 b.qty.length).all λh=>pOk r h b.zone)])/\dn d=v.den/\Bd (2+1089*256) v /\
   (((List.range' 0 b.qty.length).all λh=>pOk r h b.zone)=true->v=sumI (valQ r b) 0 b.qty.length):=by
 have hl:=hS.q b hb;obtain⟨q',d',e1,e2,e3,e4⟩:=qdl (F:=λm i q d=>q5k.l3 (n+3) [] m (rL r [.str b.who,iF b.seq,iF b.zone,.bool b.buy,iF b.qh,.list 1 (b.qty.map iF),iF b.pq,iF b.gq,.list 1 [],.bool false,.list 1 [],.bool false,zl q.num,zb q.num,nL d,.bool false,.list 1 (b.qty.map iF),iF (b.qty.length:Int),iF (i:Int)])) (len:=b.qty.length) (f:=valQ r b) (ok:=λh=>pOk r h b.zone)
  (fin:=λq d ok=>some (rL r [.str b.who,iF b.seq,iF b.zone,.bool b.buy,iF b.qh,.list 1 (b.qty.map iF),iF b.pq,iF b.gq,zl q.num,zb q.num,nL d,.bool false,.bool ok])) 1088
  (λm i q d hi hq hd ho=>by
   show q5k.l3 (n+3) [] (m+1) _=_;obtain⟨dv,t1,t2⟩:=qmi (n:=n) hS hb hi;rw[ho]at t1;have sv:Sz (valQ r b i):=(qgq hS hb i).mono;rw[q5k.qq,Af,Ac,Aa,q9 hi];simp only[q4c hi,rr];rw[t1];simp only[rr];rw[Ao,Ab,d_add hq sv hd t2];simp only[rr]
   rw[qd (by omega)])
  (λm i q d hi hq hd ho=>by
   show q5k.l3 (n+3) [] (m+1) _=_;obtain⟨dv,t1,t2⟩:=qmi (n:=n) hS hb hi;rw[ho]at t1;rw[q5k.qq,Af,Ac,Aa,q9 hi];simp only[q4c hi,rr];rw[t1];simp only[rr]
   rw[AX,Ac])
  (λm q d hq hd=>by
   show q5k.l3 (n+3) [] (m+1) _=_
   rw[q5k.qq,Ad,Ab])
  (λi hi ho=>qgq hS hb i) (by omega) b.qty.length 0 (n+3) 0 0 (by omega) (by omega) (q71) rfl
 refine⟨q',d',?_,e2,e3.mono,λh=>by rw[e4 h];grind⟩;simp only[q4z,q4m,q3h]at e1;rw[qrd,Aa];exact e1
end
end
section
section
variable {g:q11} {ss:List StpV} {bs:List BlkV} {r:ResV} {n:Nat} {who:ByteArray}
theorem qh8(hS:Sq ss bs r){i:Nat}(hi:i<bs.length)(hn:300<=n):∃v d,evF EnD (n+5) 156 (iF i::.str bs[i].who::iF bs[i].seq::iF bs[i].zone::.bool bs[i].buy::iF bs[i].qh::.list 1 (bs[i].qty.map iF)::iF bs[i].pq::iF bs[i].gq::.str who::rL r []) =
  some (.str who::rL r [zl v.num,zb v.num,nL d,.bool false,.bool (okB r who bs i)])/\dn d=v.den/\Bd (2+1089*256) v/\(okB r who bs i=true->v=valB r who bs i):=by
 have eo:okB r who bs i=(!(decide (bs[i].who=who))||(decide (i<r.aq.length)&&(!(r.aq.getD i false)||(List.range' 0 bs[i].qty.length).all λh=>pOk r h bs[i].zone))):=by unfold okB;rw[Ag hi]
 have ev:valB r who bs i=if bs[i].who=who then(if r.aq.getD i false=true then sumI (valQ r bs[i]) 0 bs[i].qty.length else 0)else 0:=by unfold valB;rw[Ag hi]
 rw[eo,ev];by_cases hw:bs[i].who=who
 ·have hb:(bs[i].who.toList==who.toList)=true:=by rw[toList_eq,Af hw]
  rw[Af hw,if_pos hw,Ao,BT];by_cases hx:i<r.aq.length
  ·have ex:r.aq.getD i false=r.aq[i]:=by rw[AD,Ag hx];rfl
   rw[Af hx,AA,ex];cases ha:r.aq[i]with
   |false =>
    refine⟨0,0,?_,rfl,q71,λ_=>by rw[if_neg (by simp)]⟩;rw[qdu,hb,Ao,Ab,Aa,Ad,Ab,q9 hx,Ae,q4q hx,q3x,Ae,ha,AX,Ac,CY,q4z,q4m,q3h]
   |true =>
    obtain⟨v,d,t1,t2,t3,t4⟩:=qtys_run (n:=n) hS (Ah hi) hn;rw[Ao,BT,if_pos rfl];refine⟨v,d,?_,t2,t3,t4⟩;rw[qdu,hb,Ao,Ab,Aa,Ad,Ab,q9 hx,Ae,q4q hx,q3x,Ae,ha,Ao,Ab,t1];simp only[rr]
  ·rw[Ad hx,Cj];refine⟨0,0,?_,rfl,q71,λh=>by cases h⟩;rw[qdu,hb,Ao,Ab,Aa,Af,Ac,q4z,q4m,q3h]
 ·rw[Ad hw,if_neg hw,AX,CY];refine⟨0,0,?_,rfl,q71,λ_=>rfl⟩;rw[qdu,toList_eq,Ad hw,AX,Ac,q4z,q4m,q3h]
theorem valB_bd(hS:Sq ss bs r)(hn:300<=n){i:Nat}(hi:i<bs.length)(ho:okB r who bs i=true):Bd (2+1089*256) (valB r who bs i):=by
 obtain⟨v,d,_,_,t3,t4⟩:=qh8 (n:=n) (who:=who) hS hi hn;rw[<- t4 ho];exact t3
theorem qtu(hS:Sq ss bs r)(hn:300<=n):∃v d,evF EnD (n+6) 155 (.list 8 (bs.map BlkV.fv)::.str who::rL r []) =
  some (.str who::rL r [zl v.num,zb v.num,nL d,.bool false,.bool ((List.range' 0 bs.length).all (okB r who bs))])/\dn d=v.den/\Bd (2+278787*bs.length) v/\((List.range' 0 bs.length).all (okB r who bs)=true->v=sumI (valB r who bs) 0 bs.length):=by
 have hl:=hS.bsl;obtain⟨q',d',e1,e2,e3,e4⟩:=qdl (F:=λm i q d=>q5j.l3 (n+5) [] m (.str who::rL r [.list 1 [],.bool false,.list 1 [],.bool false,zl q.num,zb q.num,nL d,.bool false,.list 8 (bs.map BlkV.fv),iF (bs.length:Int),iF (i:Int)])) (len:=bs.length) (f:=valB r who bs) (ok:=okB r who bs)
  (fin:=λq d ok=>some (.str who::rL r [zl q.num,zb q.num,nL d,.bool false,.bool ok])) (2+1089*256)
  (λm i q d hi hq hd ho=>by
   show q5j.l3 (n+5) [] (m+1) _=_;obtain⟨v,dv,t1,t2,t3,t4⟩:=qh8 (n:=n) (who:=who) hS hi hn;rw[ho]at t1;have hv:=t4 ho;subst hv;have sv:Sz (valB r who bs i):=t3.mono;rw[q5j.qq,Af,Ac,Aa,q9 hi];simp only[q2i hi,rr];rw[t1];simp only[rr];rw[Ao,Ab,d_add hq sv hd t2];simp only[rr]
   rw[qd (by omega)])
  (λm i q d hi hq hd ho=>by
   show q5j.l3 (n+5) [] (m+1) _=_;obtain⟨v,dv,t1,t2,t3,t4⟩:=qh8 (n:=n) (who:=who) hS hi hn;rw[ho]at t1;rw[q5j.qq,Af,Ac,Aa,q9 hi];simp only[q2i hi,rr];rw[t1];simp only[rr]
   rw[AX,Ac])
  (λm q d hq hd=>by
   show q5j.l3 (n+5) [] (m+1) _=_
   rw[q5j.qq,Ad,Ab])
  (λi hi ho=>valB_bd (n:=n) hS hn hi ho) (by omega) bs.length 0 (n+5) 0 0 (by omega) (by omega) (q71) rfl
 refine⟨q',d',?_,e2,e3.mono,λh=>by rw[e4 h];grind⟩;simp only[q4z,q4m,q3h]at e1;rw[qrc,Aa];exact e1
theorem qlu(hS:Sq ss bs r)(hn:300<=n):∃v d,evF EnD (n+7) 88 (.list 7 (ss.map StpV.fv)::.list 8 (bs.map BlkV.fv)::rL r [.str who]) =
  some [zl v.num,zb v.num,nL d,.bool false,.bool (okA ss bs r who)]/\dn d=v.den/\Bd 80000000 v/\(okA ss bs r who=true->v=amtV ss bs r who):=by
 obtain⟨v1,d1,a1,a2,a3,a4⟩:=steps_run (n:=n+2) (who:=who) hS (by omega);obtain⟨v2,d2,b1,b2,b3,b4⟩:=qtu (n:=n) (who:=who) hS hn;have h1:=hS.ssl;have h2:=hS.bsl;have s1:Sz v1:=a3.mono;have s2:Sz v2:=b3.mono;have s3:Bd 80000000 (v1+v2):=(a3.add b3).mono;refine⟨v1+v2,(v1+v2).den,?_,qc _,s3,λh=>?_⟩
 ·rw[qr9,a1];simp only[rr];rw[b1];simp only[rr];rw[d_add s1 s2 a2 b2];simp only[rr];unfold okA;cases(List.range' 0 ss.length).all (okS r who ss) <;> rfl
 ·unfold okA at h;rw[Ai]at h;unfold amtV;rw[a4 h.1,b4 h.2]
theorem qdy(hS:Sq ss bs r){l:qw}{k:Nat}{h:Nat}(hh:h<r.f.length):∃v d,evF EnD (n+3) 160 (iF h::.list 1 (r.f[h].map sF)::iF k::rL r [iF l.src,iF l.dst,iF l.cap]) =
  some (iF k::rL r [iF l.src,iF l.dst,iF l.cap,zl v.num,zb v.num,nL d,.bool false,.bool (okR r l k h)])/\dn d=v.den/\Bd 3074 v/\(okR r l k h=true->v=valR r l k h):=by
 have ef:r.f.getD h []=r.f[h]:=by rw[AD,Ag hh];rfl
 by_cases hk:k<r.f[h].length
 ·have hx:=(hS.f _ (Ah hh)).2 _ (Ah hk);have ex:r.f[h].getD k []=r.f[h][k]:=by rw[AD,Ag hk];rfl
  have eo:okR r l k h=(isNum r.f[h][k]&&pOk r h l.src&&pOk r h l.dst):=by unfold okR;rw[ef,ex,Af hk,AA]
  have ev:valR r l k h=rd r.f[h][k]*(prP r h l.dst-prP r h l.src):=by unfold valR ResV.fAt;rw[ef,ex]
  obtain⟨d1,p1,p2⟩:=qfv (n:=n+1) hx;obtain⟨d2,p3,p4⟩:=qe7 (n:=n) hS h l.src;obtain⟨d3,p5,p6⟩:=qe7 (n:=n) hS h l.dst;have b1:Bd 1024 (rd r.f[h][k]):=q35 hx;have b2:=q6x hS h l.src;have b3:=q6x hS h l.dst;have s1:Sz (rd r.f[h][k]):=b1.mono;have s2:Sz (prP r h l.src):=b2.mono;have s3:Sz (prP r h l.dst):=b3.mono;have b4:=b3.sub b2;have s4:Sz (prP r h l.dst-prP r h l.src):=b4.mono;refine⟨_,_,?_,qc _,(b1.mul b4).mono,λ_=>ev.symm⟩;rw[qke,Aa,Ad,Ab,q9 hk,Ae,q9n hk,q2j,Ae,p1];simp only[rr];rw[p3];simp only[rr];rw[p5];simp only[rr];rw[d_sub s3 s2 p6 p4];simp only[rr];rw[d_mul s1 s4 p2 (qc _)];simp only[rr];rw[eo];cases isNum r.f[h][k] <;> cases pOk r h l.src <;> cases pOk r h l.dst <;> rfl
 ·have eo:okR r l k h=false:=by unfold okR;rw[ef,Ad hk];rfl
  rw[eo];refine⟨0,0,?_,rfl,q71,λh=>by cases h⟩;rw[qke,Aa,Af,Ac,q4z,q4m,q3h]
theorem qlv(hS:Sq ss bs r){l:qw}{k:Nat}(hn:300<=n):∃v d,evF EnD (n+5) 89 (iF l.src::iF l.dst::iF l.cap::rL r [iF k]) =
  some [zl v.num,zb v.num,nL d,.bool false,.bool (q9k r l k)]/\dn d=v.den/\Bd 80000000 v/\(q9k r l k=true->v=q49 r l k):=by
 have hl:=hS.fl;obtain⟨q',d',e1,e2,e3,e4⟩:=qdl (F:=λm i q d=>q5l.l3 (n+3) [] m (iF k::rL r [iF l.src,iF l.dst,iF l.cap,.list 1 [],.bool false,.list 1 [],.bool false,zl q.num,zb q.num,nL d,.bool false,.list 1 (r.f.map rowF),iF (r.f.length:Int),iF (i:Int)])) (len:=r.f.length) (f:=valR r l k) (ok:=okR r l k)
  (fin:=λq d ok=>some (iF k::rL r [iF l.src,iF l.dst,iF l.cap,zl q.num,zb q.num,nL d,.bool false,.bool ok])) 3074
  (λm i q d hi hq hd ho=>by
   show q5l.l3 (n+3) [] (m+1) _=_;obtain⟨v,dv,t1,t2,t3,t4⟩:=qdy (n:=n) (l:=l) (k:=k) hS hi;rw[ho]at t1;have hv:=t4 ho;subst hv;have sv:Sz (valR r l k i):=t3.mono;rw[q5l.qq,Af,Ac,Aa,q9 hi];simp only[q2h hi,rr];rw[t1];simp only[rr];rw[Ao,Ab,d_add hq sv hd t2];simp only[rr]
   rw[qd (by omega)])
  (λm i q d hi hq hd ho=>by
   show q5l.l3 (n+3) [] (m+1) _=_;obtain⟨v,dv,t1,t2,t3,t4⟩:=qdy (n:=n) (l:=l) (k:=k) hS hi;rw[ho]at t1;rw[q5l.qq,Af,Ac,Aa,q9 hi];simp only[q2h hi,rr];rw[t1];simp only[rr]
   rw[AX,Ac])
  (λm q d hq hd=>by
   show q5l.l3 (n+3) [] (m+1) _=_
   rw[q5l.qq,Ad,Ab])
  (λi hi ho=>by
   obtain⟨v,dv,t1,t2,t3,t4⟩:=qdy (n:=n) (l:=l) (k:=k) hS hi;rw[<- t4 ho]
   exact t3) (by omega) r.f.length 0 (n+3) 0 0 (by omega) (by omega) (q71) rfl
 have e5:evF EnD (n+4) 159 (.list 1 (r.f.map rowF)::iF k::rL r [iF l.src,iF l.dst,iF l.cap])=some (iF k::rL r [iF l.src,iF l.dst,iF l.cap,zl q'.num,zb q'.num,nL d',.bool false,.bool (q9k r l k)]):=by
  simp only[q4z,q4m,q3h]at e1;rw[qrf,Aa];exact e1
 refine⟨q',d',?_,e2,e3.mono,λh=>by rw[e4 h];unfold q49;grind⟩;rw[qra,e5];simp only[rr]
theorem lin_at{L:List qw}{i:Nat}(h:i<L.length)(c:Nat):at' (L.map qw.fv) i c=[iF L[i].src,iF L[i].dst,iF L[i].cap][c]?:=by
 rw[q26,Ag h];rfl
end
end
section
section
variable {n:Nat} {q r:Rat} {d e:Nat}
theorem wl_zero:wl (0:Rat).num=.list 1 []:=by rw[show wl (0:Rat).num=wL 0 from rfl,qb8]
theorem x_of{z:Int}(h1:-9223372036854775808<=z:=by omega)(h2:z<=9223372036854775807:=by omega):evF EnD (n+1) 12 [iF z]=some [zb ((z:Rat)).num,wl ((z:Rat)).num,.bool false,wL ((z:Rat)).den]:=by
 have:evF EnD (n+1) 12 [iF z]=evF EnA (n+1) 12 [iF z]:=by kernel_rfl
 rw[this,w_of h1 h2]
theorem qao(hq:Sz q)(hr:Sz r)(hd:dn d=q.den)(he:dn e=r.den):evF EnD (n+1) 37 [zb (q).num,wl (q).num,.bool false,wL (d),zb (r).num,wl (r).num,.bool false,wL (e)]=some [zb (q+r).num,wl (q+r).num,.bool false,wL (q+r).den]:=by
 have:evF EnD (n+1) 37 [zb (q).num,wl (q).num,.bool false,wL (d),zb (r).num,wl (r).num,.bool false,wL (e)]=evF EnA (n+1) 37 [zb (q).num,wl (q).num,.bool false,wL (d),zb (r).num,wl (r).num,.bool false,wL (e)]:=by kernel_rfl
 rw[this,w_add hq hr hd he]
theorem x_sub(hq:Sz q)(hr:Sz r)(hd:dn d=q.den)(he:dn e=r.den):evF EnD (n+1) 92 [zb (q).num,wl (q).num,.bool false,wL (d),zb (r).num,wl (r).num,.bool false,wL (e)]=some [zb (q-r).num,wl (q-r).num,.bool false,wL (q-r).den]:=by
 have:evF EnD (n+1) 92 [zb (q).num,wl (q).num,.bool false,wL (d),zb (r).num,wl (r).num,.bool false,wL (e)]=evF EnA (n+1) 92 [zb (q).num,wl (q).num,.bool false,wL (d),zb (r).num,wl (r).num,.bool false,wL (e)]:=by kernel_rfl
 rw[this,w_sub hq hr hd he]
theorem x_mul(hq:Sz q)(hr:Sz r)(hd:dn d=q.den)(he:dn e=r.den):evF EnD (n+1) 13 [zb (q).num,wl (q).num,.bool false,wL (d),zb (r).num,wl (r).num,.bool false,wL (e)]=some [zb (q*r).num,wl (q*r).num,.bool false,wL (q*r).den]:=by
 have:evF EnD (n+1) 13 [zb (q).num,wl (q).num,.bool false,wL (d),zb (r).num,wl (r).num,.bool false,wL (e)]=evF EnA (n+1) 13 [zb (q).num,wl (q).num,.bool false,wL (d),zb (r).num,wl (r).num,.bool false,wL (e)]:=by kernel_rfl
 rw[this,w_mul hq hr hd he]
theorem x_neg(hd:dn d=q.den):evF EnD (n+1) 39 [zb (q).num,wl (q).num,.bool false,wL (d)]=some [zb (-q).num,wl (-q).num,.bool false,wL (-q).den]:=by
 have:evF EnD (n+1) 39 [zb (q).num,wl (q).num,.bool false,wL (d)]=evF EnA (n+1) 39 [zb (q).num,wl (q).num,.bool false,wL (d)]:=by kernel_rfl
 rw[this,w_neg hd]
theorem qbf(hq:Sz q)(hd:dn d=q.den):evF EnD (n+1) 14 [zb (q).num,wl (q).num,.bool false,wL (d)]=some [sF (qy q)]:=by
 have:evF EnD (n+1) 14 [zb (q).num,wl (q).num,.bool false,wL (d)]=evF EnA (n+1) 14 [zb (q).num,wl (q).num,.bool false,wL (d)]:=by kernel_rfl
 rw[this,w_text hq hd]
theorem qgp{t:Txt}(hl:t.length<=256):∃d,evF EnD (n+1) 22 [sF t]=some [zb (rd t).num,wl (rd t).num,.bool false,wL (d),iF (if isNum t=true then 0 else 10)]/\dn d=(rd t).den:=by
 have:evF EnD (n+1) 22 [sF t]=evF EnA (n+1) 22 [sF t]:=by kernel_rfl
 rw[this];cases h:pr t with
 |some q =>
  refine⟨q.den,?_,?_⟩
  ·rw[qel h,rd_some h];unfold isNum;rw[h];rfl
  ·rw[rd_some h,qc]
 |none =>
  have e:rd t=0:=by unfold rd;rw[h];rfl
  refine⟨0,?_,?_⟩
  ·rw[w_bad h,e,wl_zero,q4m,qb8];unfold isNum;rw[h];rfl
  ·rw[e];rfl
end
section
variable {g:q11} {ss:List StpV} {bs:List BlkV} {r:ResV} {n:Nat} {who:ByteArray}
theorem qbt(hS:Sq ss bs r)(h z:Int):∃d,evF EnD (n+2) 101 (rL r [iF h,iF z])=some [zb (prP r h z).num,wl (prP r h z).num,.bool false,wL (d),.bool (pOk r h z)]/\dn d=(prP r h z).den:=by
 have no:hasP r h z=false->prP r h z=0/\pOk r h z=false:=λq=>by
  unfold prP pOk;rw[q];exact⟨rfl,rfl⟩
 have nf:hasP r h z=false->evF EnD (n+2) 101 (rL r [iF h,iF z])=some [.bool false,.list 1 [],.bool false,.list 1 [],.bool false]->∃d,evF EnD (n+2) 101 (rL r [iF h,iF z])=some [zb (prP r h z).num,wl (prP r h z).num,.bool false,wL (d),.bool (pOk r h z)]/\dn d=(prP r h z).den:=λq e=>by
  obtain⟨e1,e2⟩:=no q;refine⟨0,?_,?_⟩
  ·rw[e,e1,e2,wl_zero,q4m,qb8]
  ·rw[e1];rfl
 by_cases c1:h<0
 ·refine nf (by unfold hasP;rw[Ad (p:=0<=h) (by omega)];rfl) ?_;rw[qbo,Af c1,Ac]
 by_cases c2:h<(r.p.length:Int)
 ·by_cases c3:z<0
  ·refine nf (by unfold hasP;rw[Ad (p:=0<=z) (by omega),CE];rfl) ?_;rw[qbo,Ad c1,Ab,Aa,Ad,Ab,Af c3,Ac]
  ·obtain⟨k,rfl⟩:∃k:Nat,h=k:=⟨h.toNat,by omega⟩;obtain⟨j,rfl⟩:∃j:Nat,z=j:=⟨z.toNat,by omega⟩;have k1:k<r.p.length:=by omega
   by_cases c4:j<r.p[k].length
   ·have hf:=(hS.p _ (Ah k1)).2 _ (Ah c4);have hp:hasP r k j=true:=by
     unfold hasP;rw[show((k:Int)).toNat=k from rfl,q6w k1];simp only[Ai,At];omega
    have e1:prP r k j=rd r.p[k][j]:=by
     unfold prP;rw[if_pos hp];unfold ResV.pAt;rw[show((k:Int)).toNat=k from rfl,show((j:Int)).toNat=j from rfl,q6w k1,AD,Ag c4];rfl
    have e2:pOk r k j=isNum r.p[k][j]:=by
     unfold pOk;rw[hp,AA,show((k:Int)).toNat=k from rfl,show((j:Int)).toNat=j from rfl,q6w k1,AD,Ag c4];rfl
    obtain⟨d,d1,d2⟩:=qgp (n:=n) hf;rw[e1,e2];refine⟨d,?_,d2⟩;rw[qbo,Ad c1,Ab,Aa,Ad,Ab,Ad c3,Ab,q9 k1,Ae,q2h k1,qx,Ae,Aa,Ad,Ab,Ae,q2h k1,qx,Ae,Aa,q9 c4,Ae,q9n c4,q2j,Ae,d1];simp only[rr];cases isNum r.p[k][j] <;> rfl
   ·refine nf (by unfold hasP;rw[show((k:Int)).toNat=k from rfl,q6w k1,Ad (p:=(j:Int)<(r.p[k].length:Int)) (by omega),CE]) ?_;rw[qbo,Ad c1,Ab,Aa,Ad,Ab,Ad c3,Ab,q9 k1,Ae,q2h k1,qx,Ae,Aa,Af,Ac]
 ·refine nf (by unfold hasP;rw[Ad c2,CE,Cj,Cj]) ?_;rw[qbo,Ad c1,Ab,Aa,Af,Ac]
theorem wterm(hS:Sq ss bs r){i m:Nat}(hi:i<ss.length){q:Rat}(hq:Sz q):q19.l3 (n+3) [] (m+1) (rL r [zb (q).num,wl (q).num,.bool false,wL (q).den,.list 7 (ss.map StpV.fv),.list 8 (bs.map BlkV.fv),.str who,iF i]) =
  bif okS r who ss i then q19.l3 (n+3) [] m (rL r [zb (q+valS r who ss i).num,wl (q+valS r who ss i).num,.bool false,wL (q+valS r who ss i).den,.list 7 (ss.map StpV.fv),.list 8 (bs.map BlkV.fv),.str who,iF ((i+1:Nat):Int)])else some [sF [],iF 120]:=by
 have hl:=hS.ssl;have eo:okS r who ss i=(!(decide (ss[i].who=who))||(decide (i<r.x.length)&&isNum (r.x.getD i [])&&pOk r ss[i].hour ss[i].zone)):=by unfold okS;rw[Ag hi]
 have ev:valS r who ss i=if ss[i].who=who then sgnQ ss[i].buy (r.xAt i*prP r ss[i].hour ss[i].zone)else 0:=by unfold valS;rw[Ag hi]
 rw[eo,ev,q19.qq,Aa,Af,Ac,q9 hi];simp only[q36 hi,rr];by_cases hw:ss[i].who=who
 ·have hb:(ss[i].who.toList==who.toList)=true:=by rw[toList_eq,Af hw]
  rw[Af hw,if_pos hw,hb,Ao,BT,Ab,Aa];by_cases hx:i<r.x.length
  ·have hxl:=hS.x _ (Ah hx);have ex:r.x.getD i []=r.x[i]:=by rw[AD,Ag hx];rfl
   have exa:r.xAt i=rd r.x[i]:=by unfold ResV.xAt;rw[ex]
   obtain⟨d1,p1,p2⟩:=qgp (n:=n+2) hxl;obtain⟨d2,p3,p4⟩:=qbt (n:=n+1) hS ss[i].hour ss[i].zone;have b1:Bd 1024 (rd r.x[i]):=q35 hxl;have b2:=q6x hS ss[i].hour ss[i].zone;have s1:Sz (rd r.x[i]):=b1.mono;have s2:Sz (prP r ss[i].hour ss[i].zone):=b2.mono;rw[Af hx,AA,ex,exa,Ad,Ab,q9 hx,Ae,q9n hx,q2j,Ae,p1];simp only[rr];rw[p3];simp only[rr];cases hn:isNum r.x[i]with
   |false=>rfl
   |true =>
    rw[if_pos rfl,show((0:Int) !=0)=false from rfl,Ab,AA];cases hp:pOk r ss[i].hour ss[i].zone with
    |false=>rfl
    |true =>
     rw[Ao,Ab,Ac];cases hbuy:ss[i].buy with
     |true =>
      have s3:Sz (-rd r.x[i]*prP r ss[i].hour ss[i].zone):=(b1.neg.mul b2).mono;rw[Ac,x_neg p2];simp only[rr];rw[x_mul (b1.neg.mono) s2 (qc _) p4];simp only[rr];rw[qao hq s3 (qc _) (qc _)];simp only[rr];rw[qd (by omega),show sgnQ true (rd r.x[i]*prP r ss[i].hour ss[i].zone)=-rd r.x[i]*prP r ss[i].hour ss[i].zone from by show -(_)=_;grind]
     |false =>
      have s3:Sz (rd r.x[i]*prP r ss[i].hour ss[i].zone):=(b1.mul b2).mono;rw[Ab,x_mul s1 s2 p2 p4];simp only[rr];rw[qao hq s3 (qc _) (qc _)];simp only[rr];rw[qd (by omega),show sgnQ false (rd r.x[i]*prP r ss[i].hour ss[i].zone)=rd r.x[i]*prP r ss[i].hour ss[i].zone from rfl]
  ·rw[Ad hx,Af,Ac];rfl
 ·rw[toList_eq,Ad hw,if_neg hw,AX,CY,Ac,Ac,qd (by omega),show q+0=q from by grind]
theorem winner(hS:Sq ss bs r){i m0:Nat}(hi:i<bs.length)(hx:i<r.aq.length)(hn:300<=n){q:Rat}{B:Nat}(hB:B+1089*256<=1000000000)(hq:Bd B q)(ha:r.aq[i]=true) :
  q19.l24 (n+3) [m0] (n+3) (rL r [zb (q).num,wl (q).num,.bool false,wL (q).den,.str bs[i].who,iF bs[i].seq,iF bs[i].zone,.bool bs[i].buy,iF bs[i].qh,.list 1 (bs[i].qty.map iF),iF bs[i].pq,iF bs[i].gq,.list 8 (bs.map BlkV.fv),.str who,iF i,iF 0]) =
   (bif(List.range' 0 bs[i].qty.length).all (λh=>pOk r h bs[i].zone)then q19.l17 (n+3) [] m0 (rL r [zb (q+sumI (valQ r bs[i]) 0 bs[i].qty.length).num,wl (q+sumI (valQ r bs[i]) 0 bs[i].qty.length).num,.bool false,wL (q+sumI (valQ r bs[i]) 0 bs[i].qty.length).den,.list 8 (bs.map BlkV.fv),.str who,iF ((i+1:Nat):Int)])else some [sF [],iF 120]):=by
 have hl:=hS.bsl;have hm:=Ah hi;have hl2:=hS.q _ hm
 exact(qfu (F:=λm h q=>q19.l24 (n+3) [m0] m (rL r [zb (q).num,wl (q).num,.bool false,wL (q).den,.str bs[i].who,iF bs[i].seq,iF bs[i].zone,.bool bs[i].buy,iF bs[i].qh,.list 1 (bs[i].qty.map iF),iF bs[i].pq,iF bs[i].gq,.list 8 (bs.map BlkV.fv),.str who,iF i,iF (h:Int)])) (len:=bs[i].qty.length) (f:=valQ r bs[i]) (ok:=λh=>pOk r h bs[i].zone)
  (fin:=λq=>q19.l17 (n+3) [] m0 (rL r [zb (q).num,wl (q).num,.bool false,wL (q).den,.list 8 (bs.map BlkV.fv),.str who,iF ((i+1:Nat):Int)])) (stop:=some [sF [],iF 120]) 1088 B
  (λm h q hh hq ho=>by
   show q19.l24 (n+3) [m0] (m+1) _=_;obtain⟨z1,z2⟩:=hS.z _ hm _ (Ah hh);obtain⟨d2,p3,p4⟩:=qbt (n:=n+1) hS h bs[i].zone;rw[ho]at p3;have b2:=q6x hS h bs[i].zone;have b1:=q7o z1 z2;have s1:Sz (prP r h bs[i].zone):=b2.mono;have ev:valQ r bs[i] h=sgnQ bs[i].buy (prP r h bs[i].zone*((bs[i].qty[h]:Int):Rat)):=by unfold valQ;rw[AD,Ag hh];rfl
   rw[q19.qdt,Aa,Af,Ac,Aa,q9 hx,Ae,q4q hx,q3x,Ae,ha,Ac,p3];simp only[rr];rw[Ao,Ab,q9 hh];simp only[q4c hh,rr];rw[x_of z1 z2];simp only[rr];rw[ev];cases hbuy:bs[i].buy with
   |true =>
    have s3:Sz (-((bs[i].qty[h]:Int):Rat)*prP r h bs[i].zone):=(b1.neg.mul b2).mono;rw[Ac,x_neg (qc _)];simp only[rr];rw[x_mul (b1.neg.mono) s1 (qc _) p4];simp only[rr];rw[qao hq s3 (qc _) (qc _)];simp only[rr];rw[qd (by omega),show sgnQ true (prP r h bs[i].zone*((bs[i].qty[h]:Int):Rat))=-((bs[i].qty[h]:Int):Rat)*prP r h bs[i].zone from by show -(_)=_;grind]
   |false =>
    have s3:Sz (((bs[i].qty[h]:Int):Rat)*prP r h bs[i].zone):=(b1.mul b2).mono;rw[Ab,x_mul (b1.mono) s1 (qc _) p4];simp only[rr];rw[qao hq s3 (qc _) (qc _)];simp only[rr]
    rw[qd (by omega),show sgnQ false (prP r h bs[i].zone*((bs[i].qty[h]:Int):Rat))=((bs[i].qty[h]:Int):Rat)*prP r h bs[i].zone from Rat.mul_comm _ _])
  (λm h q hh hq ho=>by
   show q19.l24 (n+3) [m0] (m+1) _=_;obtain⟨d2,p3,p4⟩:=qbt (n:=n+1) hS h bs[i].zone;rw[ho]at p3;rw[q19.qdt,Aa,Af,Ac,Aa,q9 hx,Ae,q4q hx,q3x,Ae,ha,Ac,p3];simp only[rr]
   rw[AX,Ac];rfl)
  (λm q hq=>by
   show q19.l24 (n+3) [m0] (m+1) _=_
   rw[q19.qdt,Aa,Ad,Ab,qd (by omega)])
  (λh hh ho=>qgq hS hm h) (by omega) bs[i].qty.length 0 (n+3) q (by omega) (by omega) hq).1
theorem wbterm(hS:Sq ss bs r){i m:Nat}(hi:i<bs.length)(hn:300<=n){q:Rat}{B:Nat}(hB:B+1089*256<=1000000000)(hq:Bd B q) :
  q19.l17 (n+3) [] (m+1) (rL r [zb (q).num,wl (q).num,.bool false,wL (q).den,.list 8 (bs.map BlkV.fv),.str who,iF i]) =
  bif okB r who bs i then q19.l17 (n+3) [] m (rL r [zb (q+valB r who bs i).num,wl (q+valB r who bs i).num,.bool false,wL (q+valB r who bs i).den,.list 8 (bs.map BlkV.fv),.str who,iF ((i+1:Nat):Int)])else some [sF [],iF 120]:=by
 have hl:=hS.bsl;have eo:okB r who bs i=(!(decide (bs[i].who=who))||(decide (i<r.aq.length)&&(!(r.aq.getD i false)||(List.range' 0 bs[i].qty.length).all λh=>pOk r h bs[i].zone))):=by unfold okB;rw[Ag hi]
 have ev:valB r who bs i=if bs[i].who=who then(if r.aq.getD i false=true then sumI (valQ r bs[i]) 0 bs[i].qty.length else 0)else 0:=by unfold valB;rw[Ag hi]
 have z0:q+0=q:=by grind
 rw[eo,ev,q19.l17_eq,Aa,Af,Ac,q9 hi];simp only[q2i hi,rr];by_cases hw:bs[i].who=who
 ·have hb:(bs[i].who.toList==who.toList)=true:=by rw[toList_eq,Af hw]
  rw[Af hw,if_pos hw,hb,Ao,BT,Ab,Aa];by_cases hx:i<r.aq.length
  ·have ex:r.aq.getD i false=r.aq[i]:=by rw[AD,Ag hx];rfl
   rw[Af hx,AA,ex,Ad,Ab];cases ha:r.aq[i]with
   |true =>
    rw[winner hS hi hx hn hB hq ha,Ao,BT,if_pos rfl]
   |false =>
    rw[AX,CY,Ac,if_neg (by simp),z0,q19.qdt,Aa];by_cases hz:0<bs[i].qty.length
    ·rw[Af,Ac,Aa,q9 hx,Ae,q4q hx,q3x,Ae,ha,Ab,qd (by omega)]
    ·rw[Ad,Ab,qd (by omega)]
  ·rw[Ad hx,Af,Ac];rfl
 ·rw[toList_eq,Ad hw,if_neg hw,AX,CY,Ac,Ac,qd (by omega),z0]
theorem wblocks(hS:Sq ss bs r)(hn:300<=n):∀(c i m:Nat) (q:Rat),i+c=bs.length->c<m->Bd (600000+278787*i) q ->
  q19.l17 (n+3) [] m (rL r [zb (q).num,wl (q).num,.bool false,wL (q).den,.list 8 (bs.map BlkV.fv),.str who,iF i]) =
   bif(List.range' i c).all (okB r who bs)then some [sF (qy (q+sumI (valB r who bs) i c)),iF 0]else some [sF [],iF 120]:=by
 have hl:=hS.bsl;intro c
 induction c with
 |zero =>
  intro i m q hi hm hq;obtain⟨m,rfl⟩:=qSx m;obtain rfl:i=bs.length:=by omega
  rw[q19.l17_eq,Aa,Ad,Ab,qbf (hq.mono) (qc _)];simp only[rr];have e:q+sumI (valB r who bs) bs.length 0=q:=by unfold sumI;grind
  rw[e];rfl
 |succ c ih =>
  intro i m q hi hm hq;obtain⟨m,rfl⟩:=qSx m;rw[wbterm hS (by omega) hn (B:=600000+278787*i) (by omega) hq,BS,Bk];cases ho:okB r who bs i with
  |false=>rfl
  |true =>
   have hb:=valB_bd (n:=n) hS hn (by omega) ho;rw[Ac,AA,ih (i+1) m (q+valB r who bs i) (by omega) (by omega) ((hq.add hb).mono)];rw[show q+valB r who bs i+sumI (valB r who bs) (i+1) c=q+sumI (valB r who bs) i (c+1) from by show _=q+(valB r who bs i+sumI (valB r who bs) (i+1) c);grind]
theorem qsh(hS:Sq ss bs r)(hn:300<=n):evF EnD (n+4) 33 (.list 7 (ss.map StpV.fv)::.list 8 (bs.map BlkV.fv)::rL r [.str who]) =
  some (bif okA ss bs r who then [sF (qy (amtV ss bs r who)),iF 0]else [sF [],iF 120]):=by
 have hl:=hS.ssl;obtain⟨e1,e2⟩:=qfu (F:=λm i q=>q19.l3 (n+3) [] m (rL r [zb (q).num,wl (q).num,.bool false,wL (q).den,.list 7 (ss.map StpV.fv),.list 8 (bs.map BlkV.fv),.str who,iF (i:Int)])) (len:=ss.length) (f:=valS r who ss) (ok:=okS r who ss)
  (fin:=λq=>q19.l17 (n+3) [] (n+3) (rL r [zb (q).num,wl (q).num,.bool false,wL (q).den,.list 8 (bs.map BlkV.fv),.str who,iF 0])) (stop:=some [sF [],iF 120]) 2048 65
  (λm i q hi hq ho=>by
   show q19.l3 (n+3) [] (m+1) _=_
   rw[wterm hS hi hq,ho,Ac])
  (λm i q hi hq ho=>by
   show q19.l3 (n+3) [] (m+1) _=_
   rw[wterm hS hi hq,ho,Ab])
  (λm q hq=>by
   show q19.l3 (n+3) [] (m+1) _=_
   rw[q19.qq,Aa,Ad,Ab])
  (λi hi ho=>qgr hS hi ho) (by omega) ss.length 0 (n+3) ((0:Int):Rat) (by omega) (by omega) ((q7o (z:=0)).mono)
 rw[qr7,x_of (z:=0)];simp only[rr];refine e1.trans ?_;unfold okA;cases h:(List.range' 0 ss.length).all (okS r who ss)with
 |false=>rfl
 |true =>
  rw[Ac,AA];refine(wblocks hS hn bs.length 0 (n+3) _ (by omega) (by have:=hS.bsl;omega) ((e2 h).mono)).trans ?_;unfold amtV;rw[show((0:Int):Rat)+sumI (valS r who ss) 0 ss.length+sumI (valB r who bs) 0 bs.length=sumI (valS r who ss) 0 ss.length+sumI (valB r who bs) 0 bs.length from by rw[show((0:Int):Rat)=0 from rfl];grind];cases(List.range' 0 bs.length).all (okB r who bs) <;> rfl
theorem wrterm(hS:Sq ss bs r){l:qw}{k h m:Nat}(hh:h<r.f.length){q:Rat}(hq:Sz q):q4y.l6 (n+3) [] (m+1) (rL r [zb (q).num,wl (q).num,.bool false,wL (q).den,iF l.src,iF l.dst,iF l.cap,iF k,iF h]) =
  bif okR r l k h then q4y.l6 (n+3) [] m (rL r [zb (q+valR r l k h).num,wl (q+valR r l k h).num,.bool false,wL (q+valR r l k h).den,iF l.src,iF l.dst,iF l.cap,iF k,iF ((h+1:Nat):Int)])else some [sF [],iF 120]:=by
 have hl:=hS.fl;have ef:r.f.getD h []=r.f[h]:=by rw[AD,Ag hh];rfl
 rw[q4y.q2n,Aa,Af,Ac,q9 hh,Ae,q2h hh,qx,Ae,Aa];by_cases hk:k<r.f[h].length
 ·have hx:=(hS.f _ (Ah hh)).2 _ (Ah hk);have ex:r.f[h].getD k []=r.f[h][k]:=by rw[AD,Ag hk];rfl
  have eo:okR r l k h=(isNum r.f[h][k]&&pOk r h l.src&&pOk r h l.dst):=by unfold okR;rw[ef,ex,Af hk,AA]
  have ev:valR r l k h=rd r.f[h][k]*(prP r h l.dst-prP r h l.src):=by unfold valR ResV.fAt;rw[ef,ex]
  obtain⟨d1,p1,p2⟩:=qgp (n:=n+2) hx;obtain⟨d2,p3,p4⟩:=qbt (n:=n+1) hS h l.src;obtain⟨d3,p5,p6⟩:=qbt (n:=n+1) hS h l.dst;have b1:Bd 1024 (rd r.f[h][k]):=q35 hx;have b2:=q6x hS h l.src;have b3:=q6x hS h l.dst;have s1:Sz (rd r.f[h][k]):=b1.mono;have s2:Sz (prP r h l.src):=b2.mono;have s3:Sz (prP r h l.dst):=b3.mono;have b4:=b3.sub b2;have s4:Sz (prP r h l.dst-prP r h l.src):=b4.mono;have s5:Sz (rd r.f[h][k]*(prP r h l.dst-prP r h l.src)):=(b1.mul b4).mono;rw[eo,ev,Ad,Ab,Ae,q2h hh,qx,Ae,Aa,q9 hk,Ae,q9n hk,q2j,Ae,p1];simp only[rr];rw[p3];simp only[rr];rw[p5];simp only[rr];cases hn:isNum r.f[h][k]with
  |false=>rfl
  |true =>
   rw[if_pos rfl,show((0:Int) !=0)=false from rfl,Ab,AA];cases hp:pOk r h l.src with
   |false=>rfl
   |true =>
    rw[Ao,Ab,AA];cases hp2:pOk r h l.dst with
    |false=>rfl
    |true =>
     rw[Ao,Ab,Ac,x_sub s3 s2 p6 p4];simp only[rr];rw[x_mul s1 s4 p2 (qc _)];simp only[rr];rw[qao hq s5 (qc _) (qc _)];simp only[rr];rw[qd (by omega)]
 ·have eo:okR r l k h=false:=by unfold okR;rw[ef,Ad hk];rfl
  rw[eo,Af,Ac];rfl
theorem valR_bd(hS:Sq ss bs r){l:qw}{k:Nat}{h:Nat}(hh:h<r.f.length)(ho:okR r l k h=true):Bd 3074 (valR r l k h):=by
 obtain⟨v,dv,t1,t2,t3,t4⟩:=qdy (n:=0) (l:=l) (k:=k) hS hh;rw[<- t4 ho];exact t3
theorem wRent_run(hS:Sq ss bs r)(hn:300<=n)(z:Int):evF EnD (n+4) 35 (gR g (rL r [iF z])) =
  some (if h:0<=z/\z<(g.lq.length:Int)then(bif q9k r (g.lq.getD z.toNat default) z.toNat then [sF (qy (q49 r (g.lq.getD z.toNat default) z.toNat)),iF 0]else [sF [],iF 120])else [sF [],iF 1]):=by
 by_cases c1:z<0
 ·rw[qgl,Af c1,Ac,Cf (by omega)];rfl
 by_cases c2:z<(g.lq.length:Int)
 ·obtain⟨k,rfl⟩:∃k:Nat,z=k:=⟨z.toNat,by omega⟩;have hk:k<g.lq.length:=by omega
  have el:g.lq.getD k default=g.lq[k]:=by rw[AD,Ag hk];rfl
  have hl:=hS.fl;rw[BZ (by omega),show((k:Int)).toNat=k from rfl,el];obtain⟨e1,e2⟩:=qfu (F:=λm i q=>q4y.l6 (n+3) [] m (rL r [zb (q).num,wl (q).num,.bool false,wL (q).den,iF g.lq[k].src,iF g.lq[k].dst,iF g.lq[k].cap,iF k,iF (i:Int)])) (len:=r.f.length) (f:=valR r g.lq[k] k) (ok:=okR r g.lq[k] k)
   (fin:=λq=>some [sF (qy q),iF 0]) (stop:=some [sF [],iF 120]) 3074 65
   (λm i q hi hq ho=>by
    show q4y.l6 (n+3) [] (m+1) _=_
    rw[wrterm hS hi hq,ho,Ac])
   (λm i q hi hq ho=>by
    show q4y.l6 (n+3) [] (m+1) _=_
    rw[wrterm hS hi hq,ho,Ab])
   (λm q hq=>by
    show q4y.l6 (n+3) [] (m+1) _=_;rw[q4y.q2n,Aa,Ad,Ab,qbf hq (qc _)]
    simp only[rr])
   (λi hi ho=>valR_bd hS hi ho) (by omega) r.f.length 0 (n+3) ((0:Int):Rat) (by omega) (by omega) ((q7o (z:=0)).mono)
  rw[qgl,Ad c1,Ab,Aa,Ad,Ab,x_of (z:=0)];simp only[rr];rw[q9 hk];simp only[lin_at hk,rr];refine e1.trans ?_;unfold q9k q49;rw[show((0:Int):Rat)+sumI (valR r g.lq[k] k) 0 r.f.length=sumI (valR r g.lq[k] k) 0 r.f.length from by rw[show((0:Int):Rat)=0 from rfl];grind];cases(List.range' 0 r.f.length).all (okR r g.lq[k] k) <;> rfl
 ·rw[qgl,Ad c1,Ab,Aa,Af,Ac,Cf (by omega)];rfl
end
end
section
def insN:List Txt->Txt->List Txt
 |[],x=>[x]
 |a::l,x=>if a<x then a::insN l x else if a=x then a::l else x::a::l
def whoL(ss:List StpV)(bs:List BlkV):List Txt:=(ss.map λs=>s.who.data.toList)++bs.map λb=>b.who.data.toList
def q1y(ss:List StpV)(bs:List BlkV):List Txt:=Lib.compact (sortL (whoL ss bs))
theorem qga(a:Txt):¬ a<a:=List.lt_irrefl a
theorem qk3{a b:Txt}(h:a<=b)(hn:a≠b):a<b:=Eb λh2=>hn (List.le_antisymm h (EW.1 h2))
theorem tx_gt_of{a b:Txt}(h:¬ a<b)(hn:a≠b):b<a:=qk3 (EW.1 h) λe=>hn e.symm
theorem qgb(x y:Txt):∀l:List Txt,y∈insN l x↔y=x\/y∈l
 |[]=>by simp[insN]
 |a::l=>by
  unfold insN;split
  ·rw[Ar,qgb x y l,Ar];constructor
   ·rintro(h | h | h) <;> simp[h]
   ·rintro(h | h | h) <;> simp[h]
  ·split
   ·rename_i _ e;subst e;rw[Ar];constructor
    ·rintro(h | h) <;> simp[h]
    ·rintro(h | h | h) <;> simp[h]
   ·simp
theorem ins_asc(x:Txt):∀ {l:List Txt},l.Pairwise (·<·)->(insN l x).Pairwise (·<·)
 |[],_=>by simp[insN]
 |a::l,h=>by
  have h':=DF.1 h;unfold insN;split
  ·rename_i hlt;refine DF.2 ⟨λy hy=>?_,ins_asc x h'.2⟩;rcases(qgb x y l).1 hy with rfl | hy
   ·exact hlt
   ·exact h'.1 y hy
  ·split
   ·exact h
   ·rename_i h1 h2;have hx:=tx_gt_of h1 h2;refine DF.2 ⟨λy hy=>?_,h⟩;rcases Ar.1 hy with rfl | hy
    ·exact hx
    ·exact EX hx (h'.1 y hy)
theorem qk4:∀ {S T:List Txt},S.Pairwise (·<·)->T.Pairwise (·<·)->(∀k,k∈S↔k∈T)->S=T
 |[],[],_,_,_=>rfl
 |[],b::t,_,_,h=>absurd ((h b).2 (by simp)) (by simp)
 |a::r,[],_,_,h=>absurd ((h a).1 (by simp)) (by simp)
 |a::r,b::t,hs,ht,h=>by
  have hs':=DF.1 hs;have ht':=DF.1 ht;have e:a=b:=by
   rcases Ar.1 ((h a).1 (by simp))with q | q
   ·exact q
   ·rcases Ar.1 ((h b).2 (by simp))with q2 | q2
    ·exact q2.symm
    ·exact absurd (EX (ht'.1 a q) (hs'.1 b q2)) (qga _)
  subst e;have:r=t:=qk4 hs'.2 ht'.2 λk=>by
   have hk:=h k;simp only[Ar]at hk;constructor
   ·intro q;rcases hk.1 (.inr q)with rfl | q2
    ·exact absurd (hs'.1 k q) (qga _)
    ·exact q2
   ·intro q;rcases hk.2 (.inr q)with rfl | q2
    ·exact absurd (ht'.1 k q) (qga _)
    ·exact q2
  rw[this]
theorem qk5{l:List Txt}(h:l.Pairwise (·≤·)):∀m,m<=l.length->(Lib.compactUpTo l.toArray m).Pairwise (·<·)/\(∀x,x∈Lib.compactUpTo l.toArray m↔x∈l.take m)/\∀x,x∈Lib.compactUpTo l.toArray m->∀i (hi:i<l.length),m<=i+1->x<=l[i]:=by
 intro m
 induction m with
 |zero =>
  intro _;have e:Lib.compactUpTo l.toArray 0=[]:=rfl;rw[e];exact⟨.nil,λx=>by simp,λx hx=>by simp at hx⟩
 |succ m ih =>
  intro hm;obtain⟨p1,p2,p3⟩:=ih (by omega);have hml:m<l.length:=by omega
  have em:l.toArray[m]! = l[m]:=by rw[EY _ m (by simpa using hml),EZ]
  have le:∀i j (hi:i<l.length) (hj:j<l.length),i<=j->l[i]<=l[j]:=λi j hi hj hij=>by
   rcases Dj i j with q | q
   ·exact List.pairwise_iff_getElem.1 h i j hi hj q
   ·have:i=j:=by omega
    subst this;exact List.le_refl _
  rw[Lib.compactUpTo_succ,em];by_cases hk:Lib.keeps l.toArray m=true
  ·rw[if_pos hk];refine⟨List.pairwise_append.2 ⟨p1,by simp,λa ha b hb=>?_⟩,λx=>?_,λx hx i hi hmi=>?_⟩
   ·rw[BK]at hb;subst hb;have h0:m≠0:=λe=>by subst e;exact absurd ((p2 a).1 ha) (by simp)
    have hne:l[m]≠l[m-1]:=by
     unfold Lib.keeps at hk;rw[At]at hk;rcases hk with q | q
     ·exact absurd q h0
     ·rw[em,EY _ (m-1) (by simp;omega),EZ]at q;exact q
    have a1:=p3 a ha (m-1) (by omega) (by omega);have a2:=qk3 (le (m-1) m (by omega) hml (by omega)) λe=>hne e.symm;exact Eb λq=>absurd (List.le_trans (EW.1 q) a1) (List.not_le.2 a2)
   ·rw[BD,p2,Fa hml,BD]
   ·rcases BD.1 hx with q | q
    ·exact p3 x q i hi (by omega)
    ·rw[BK]at q;subst q;exact le m i hml hi (by omega)
  ·rw[if_neg hk,AN];refine⟨p1,λx=>?_,λx hx i hi hmi=>p3 x hx i hi (by omega)⟩;have h0:m≠0/\l[m]=l[m-1]:=by
    unfold Lib.keeps at hk;rw[At]at hk;have h1:m≠0:=λe=>hk (.inl e);refine⟨h1,Eb λq=>hk (.inr ?_)⟩;rw[em,EY _ (m-1) (by simp;omega),EZ];exact q
   rw[p2,Fa hml,BD,BK];constructor
   ·exact .inl
   ·rintro(q | rfl)
    ·exact q
    ·rw[h0.2];exact List.mem_take_iff_getElem.2 ⟨m-1,by omega,rfl⟩
theorem qk6(l:List Txt):(sortL l).Pairwise (·≤·):=by
 have tr:∀a b c:List UInt8,decide (a<=b)=true->decide (b<=c)=true->decide (a<=c)=true:=λa b c h1 h2=>by simp only[At]at *;exact List.le_trans h1 h2
 have to:∀a b:List UInt8,(decide (a<=b)||decide (b<=a))=true:=λa b=>by simp only[DO,At];exact List.le_total a b
 exact(List.pairwise_mergeSort tr to l).imp λh=>by simpa using h
theorem names_asc(ss:List StpV)(bs:List BlkV):(q1y ss bs).Pairwise (·<·):=by
 have:=(qk5 (qk6 (whoL ss bs)) _ (Ak _)).1;exact this
theorem qgc(ss:List StpV)(bs:List BlkV)(x:Txt):x∈q1y ss bs↔x∈whoL ss bs:=by
 have:=(qk5 (qk6 (whoL ss bs)) _ (Ak _)).2.1 x;rw[Bj]at this;rw[show x∈q1y ss bs↔x∈sortL (whoL ss bs) from this];exact List.mem_mergeSort
theorem qk7:∀(l O:List Txt),O.Pairwise (·<·)->(l.foldl insN O).Pairwise (·<·)/\∀x,x∈l.foldl insN O↔x∈O\/x∈l
 |[],O,h=>⟨h,λx=>by simp⟩
 |a::l,O,h=>by
  obtain⟨p1,p2⟩:=qk7 l (insN O a) (ins_asc a h);refine⟨p1,λx=>?_⟩;rw[show(a::l).foldl insN O=l.foldl insN (insN O a) from rfl,p2,qgb,Ar];constructor
  ·rintro((h | h) | h) <;> simp[h]
  ·rintro(h | h | h) <;> simp[h]
theorem names_one(ss:List StpV)(bs:List BlkV):(whoL ss bs).foldl insN []=q1y ss bs:=by
 obtain⟨p1,p2⟩:=qk7 (whoL ss bs) [] .nil;exact qk4 p1 (names_asc ss bs) λk=>by rw[p2,qgc];simp
theorem ins_at(x:Txt):∀(O:List Txt) (k:Nat),k<=O.length->(∀j (hj:j<O.length),j<k->O[j]<x)->(∀hk:k<O.length,¬ O[k]<x) ->
  insN O x=if h:k<O.length then(if O[k]=x then O else O.take k++x::O.drop k)else O++[x]
 |[],k,hk,_,_=>by rw[Cf (by simp)];rfl
 |a::l,0,_,_,h2=>by
  have h2':¬ a<x:=h2 (by simp);unfold insN;rw[if_neg h2',BZ (by simp)];rfl
 |a::l,k+1,hk,h1,h2=>by
  have ha:a<x:=h1 0 (by simp) (by omega);have ih:=ins_at x l k (by simpa using hk) (λj hj hjk=>h1 (j+1) (by simpa using hj) (by omega)) (λhk2=>h2 (by simpa using hk2));unfold insN;rw[if_pos ha,ih];by_cases h:k<l.length
  ·rw[BZ h,BZ (by simpa using h)];by_cases e:l[k]=x
   ·rw[if_pos e,if_pos (by simpa using e)]
   ·rw[if_neg e,if_neg (by simpa using e)];rfl
  ·rw[Cf h,Cf (by simpa using h)];rfl
theorem qdo(s:ByteArray):FV.str s=sF s.data.toList:=by
 show FV.str s=FV.str (txt s.data.toList);unfold txt;rw[FD]
theorem qdp(t:Txt):(txt t).toList=t:=by rw[Lib.toList_data,q7k]
section
variable {ss:List StpV} {bs:List BlkV} {n i:Nat}
theorem q33{a b:Nat}(h:a<=b):Nat.ble a b=true:=Dc h
theorem bl_tx(a b:Txt):Op.bytesLess (txt a).toList (txt b).toList=decide (a<b):=by rw[Go.Proofs.bytesLess_eq,qdp,qdp]
theorem eq_tx(a b:Txt):((txt a).toList==(txt b).toList)=decide (a=b):=by
 rw[qdp,qdp,Bm,Bv,At]
theorem put_eq{A O:List Txt}{i k:Nat}(hi:i<A.length)(hk:k<=O.length):((([]:List FV)++List.drop 0 (List.take k (O.map sF)))++[sF A[i]])++List.drop k (List.take (O.map sF).length (O.map sF))=(O.take k++A[i]::O.drop k).map sF:=by
 rw[As,Au,Bj,AK,AS,List.map_take,List.map_drop,Ap];rfl
theorem wins_loop{m0:Nat}{A:List Txt}{i:Nat}(hi:i<A.length)(hA:A.length<=1000000){O:List Txt}(hO:O.length<=1000000):∀(d k m:Nat),k+d=O.length->d<m->(∀j (hj:j<O.length),j<k->O[j]<A[i]) ->
  q1m.l15 n [m0] m [.list 1 (A.map sF),.list 1 (O.map sF),iF i,iF k]=q1m.l12 n [] m0 [.list 1 (A.map sF),.list 1 ((insN O A[i]).map sF),iF ((i+1:Nat):Int)]:=by
 intro d
 induction d with
 |zero =>
  intro k m hk hm hlow;obtain⟨m,rfl⟩:=qSx m;obtain rfl:k=O.length:=by omega
  have ei:=ins_at A[i] O O.length (Ak _) hlow (λh=>absurd h (by omega));rw[Cf (by omega)]at ei;have ei2:insN O A[i]=O.take O.length++A[i]::O.drop O.length:=by rw[ei,Bj,Eh]
  rw[q1m.qbm,ei2,<- put_eq hi (Ak _)];simp (disch:=(first | omega | (simp only[AZ,BF,Dy,Aq,Be,Aa];omega))) only[Aa,decide_eq_false,q9 hi,q1s (Ak O.length),q78 hi,el0,el1,q33,Ae,q2j,Ab,Ac,qd]
 |succ d ih =>
  intro k m hk hm hlow;obtain⟨m,rfl⟩:=qSx m;have hkl:k<O.length:=by omega
  rw[q1m.qbm];simp only[Aa];rw[Af,Ac,q9 hkl,q9 hi];simp only[Ae,q78 hkl,q78 hi,q2j,bl_tx,eq_tx,Ac];by_cases hlt:O[k]<A[i]
  ·rw[Af hlt,Ac,qd (by omega)];refine ih (k+1) m (by omega) (by omega) λj hj hjk=>?_;by_cases e:j=k
   ·subst e;exact hlt
   ·exact hlow j hj (by omega)
  ·have ei:=ins_at A[i] O k (by omega) hlow (λ_=>hlt);rw[BZ hkl]at ei;rw[Ad hlt,Ab];by_cases e:O[k]=A[i]
   ·rw[if_pos e]at ei;rw[Af e,Ac,ei,qd (by omega)]
   ·rw[if_neg e]at ei;rw[Ad e,Ab,ei,<- put_eq hi (by omega)];simp (disch:=(first | omega | (simp only[AZ,BF,Dy,Aq,Be,Aa];omega))) only[q1s (CT hkl),el0,el1,q33,Ae,Ac,qd,Aa]
theorem ins_len(x:Txt):∀l:List Txt,(insN l x).length<=l.length+1
 |[]=>Ak _
 |a::l=>by
  unfold insN;have:=ins_len x l;split
  ·simp only[Aq];omega
  ·split <;> simp only[Aq] <;> omega
theorem qqq{A:List Txt}(hA:A.length<=100000)(hn:200000<=n):∀(d i m:Nat) (O:List Txt),i+d=A.length->d<m->O.length<=i ->
  q1m.l12 n [] m [.list 1 (A.map sF),.list 1 (O.map sF),iF i]=some [.list 1 (((A.drop i).foldl insN O).map sF)]:=by
 intro d
 induction d with
 |zero =>
  intro i m O hi hm hO;obtain⟨m,rfl⟩:=qSx m;obtain rfl:i=A.length:=by omega
  rw[q1m.q58,Aa,Ad,Ab,Eh];rfl
 |succ d ih =>
  intro i m O hi hm hO;obtain⟨m,rfl⟩:=qSx m;have hil:i<A.length:=by omega
  have h:=wins_loop (n:=n) (m0:=m) hil (by omega) (O:=O) (by omega) O.length 0 n (by omega) (by omega) (λj _ h=>absurd h (by omega));rw[q1m.q58,Aa,Af,Ac];refine h.trans ?_;rw[ih (i+1) m (insN O A[i]) (by omega) (by omega) (by have:=ins_len A[i] O;omega),Bc hil];rfl
theorem who_at(h:i<ss.length):at' (ss.map StpV.fv) i 0=some (sF ss[i].who.data.toList):=by rw[q36 h,<- qdo];rfl
theorem whob_at(h:i<bs.length):at' (bs.map BlkV.fv) i 0=some (sF bs[i].who.data.toList):=by rw[q2i h,<- qdo];rfl
theorem qdq{α β:Type}(f:α->β){l:List α}{i:Nat}(h:i<l.length):(l.take i).map f++[f l[i]]=(l.take (i+1)).map f:=by
 rw[Fa h,AK];rfl
theorem qjc(hs:ss.length<=256)(hb:bs.length<=256)(hn:200000<=n):evF EnD (n+1) 28 [.list 7 (ss.map StpV.fv),.list 8 (bs.map BlkV.fv)]=some [.list 1 ((q1y ss bs).map sF)]:=by
 have l7:∀(d i m:Nat),i+d=bs.length->d<m->q1m.l7 n [] m [.list 8 (bs.map BlkV.fv),.list 1 (((ss.map λs=>s.who.data.toList)++(bs.take i).map λb=>b.who.data.toList).map sF),iF i]=some [.list 1 ((q1y ss bs).map sF)]:=by
  intro d
  induction d with
  |zero =>
   intro i m hi hm;obtain⟨m,rfl⟩:=qSx m;obtain rfl:i=bs.length:=by omega
   have h:=qqq (n:=n) (A:=whoL ss bs) (by unfold whoL;simp only[AZ,Aa];omega) hn (whoL ss bs).length 0 n [] (by omega) (by unfold whoL;simp only[AZ,Aa];omega) (Ak _);rw[Au,names_one]at h;rw[q1m.q3a,Aa,Ad,Ab,Bj];exact h
  |succ d ih =>
   intro i m hi hm;obtain⟨m,rfl⟩:=qSx m;have hil:i<bs.length:=by omega
   rw[q1m.q3a,Aa,Af,Ac,q9 hil];simp only[Ae,whob_at hil,q2j,el1];rw[q33 (by simp only[AZ,Aa,BF,Aq,Be];omega),Ac,qd (by omega),<- ih (i+1) m (by omega) (by omega),<- qdq (λb:BlkV=>b.who.data.toList) hil];simp only[AK,Ap,AS,BG]
 have l3:∀(d i m:Nat),i+d=ss.length->d<m->q1m.l3 n [] m [.list 7 (ss.map StpV.fv),.list 8 (bs.map BlkV.fv),.list 1 (((ss.take i).map λs=>s.who.data.toList).map sF),iF i]=some [.list 1 ((q1y ss bs).map sF)]:=by
  intro d
  induction d with
  |zero =>
   intro i m hi hm;obtain⟨m,rfl⟩:=qSx m;obtain rfl:i=ss.length:=by omega
   have h:=l7 bs.length 0 n (by omega) (by omega);rw[CP,BG,AN]at h;rw[q1m.qq,Aa,Ad,Ab,Bj];exact h
  |succ d ih =>
   intro i m hi hm;obtain⟨m,rfl⟩:=qSx m;have hil:i<ss.length:=by omega
   rw[q1m.qq,Aa,Af,Ac,q9 hil];simp only[Ae,who_at hil,q2j,el1];rw[q33 (by simp only[Aa,BF,Aq,Be];omega),Ac,qd (by omega),<- ih (i+1) m (by omega) (by omega),<- qdq (λb:StpV=>b.who.data.toList) hil];simp only[AK,AS,BG]
 rw[qqr];have h:=l3 ss.length 0 n (by omega) (by omega);rw[CP,BG]at h;exact h
theorem qqs{L:List FV}(hs:ss.length<=256)(hb:bs.length<=256)(hn:1000<=n){g:q11}{r:ResV} :
  q1n.l5 (n+1) [] (n+1) (gR g (rL r [.list 7 (ss.map StpV.fv),.list 8 (bs.map BlkV.fv),.list 1 [],.list 7 (ss.map StpV.fv),iF (ss.length:Int),iF 0])) =
   q1n.l19 (n+1) [] (n+1) (gR g (rL r [.list 2 [],.list 1 [],.bool false,.list 7 (ss.map StpV.fv),.list 8 (bs.map BlkV.fv),.list 1 ((q1y ss bs).map sF),iF ((q1y ss bs).length:Int),iF 0])):=by
 have lw:(whoL ss bs).length=ss.length+bs.length:=by unfold whoL;simp only[AZ,Aa]
 have so:∀l:List Txt,(l.map sF).all q69=true:=λl=>Av.2 λx hx=>by
  obtain⟨t,_,rfl⟩:=Bp.1 hx;rfl
 have bo:∀l:List Txt,(l.map sF).map byts=l:=λl=>by
  rw[Ct];exact(CO λt _=>(q7k t:byts (sF t)=t)).trans (Ei _)
 have h81:evF EnD (n+1) 81 [.list 1 ((whoL ss bs).map sF)]=some [.list 1 ((sortL (whoL ss bs)).map sF)]:=by
  have:evF EnD (n+1) 81 [.list 1 ((whoL ss bs).map sF)]=sortExt [.list 1 ((whoL ss bs).map sF)]:=by kernel_rfl
  rw[this];refine(if_pos ⟨so _,by rw[Aa];omega⟩).trans ?_;rw[bo]
 have h86:evF EnD (n+1) 86 [.list 1 ((sortL (whoL ss bs)).map sF)]=some [.list 1 ((q1y ss bs).map sF)]:=by
  have:evF EnD (n+1) 86 [.list 1 ((sortL (whoL ss bs)).map sF)]=qbn [.list 1 ((sortL (whoL ss bs)).map sF)]:=by kernel_rfl
  rw[this];refine(if_pos ⟨so _,by rw[Aa,show(sortL (whoL ss bs)).length=(whoL ss bs).length from(Fb _ _).length_eq];omega⟩).trans ?_;rw[bo];rfl
 have l10:∀(d i m:Nat),i+d=bs.length->d<m->q1n.l10 (n+1) [] m (gR g (rL r [.list 7 (ss.map StpV.fv),.list 8 (bs.map BlkV.fv),.list 1 (((ss.map λs=>s.who.data.toList)++(bs.take i).map λb=>b.who.data.toList).map sF),.list 8 (bs.map BlkV.fv),iF (bs.length:Int),iF i])) =
   q1n.l19 (n+1) [] (n+1) (gR g (rL r [.list 2 [],.list 1 [],.bool false,.list 7 (ss.map StpV.fv),.list 8 (bs.map BlkV.fv),.list 1 ((q1y ss bs).map sF),iF ((q1y ss bs).length:Int),iF 0])):=by
  intro d
  induction d with
  |zero =>
   intro i m hi hm;obtain⟨m,rfl⟩:=qSx m;obtain rfl:i=bs.length:=by omega
   rw[q1n.q45,Ad,Ab,Bj,show((ss.map λs=>s.who.data.toList)++bs.map λb=>b.who.data.toList)=whoL ss bs from rfl,h81];simp only[rr];rw[h86];simp only[rr];rw[Aa]
  |succ d ih =>
   intro i m hi hm;obtain⟨m,rfl⟩:=qSx m;have hil:i<bs.length:=by omega
   rw[q1n.q45,Af,Ac,Aa,q9 hil];simp (disch:=omega) only[q2i hil,el1,rr];rw[q33 (by simp only[AZ,Aa,BF,Aq,Be];omega),Ac,qd (by omega),<- ih (i+1) m (by omega) (by omega),<- qdq (λb:BlkV=>b.who.data.toList) hil,qdo bs[i].who];simp only[AK,Ap,AS,BG]
 have l5:∀(d i m:Nat),i+d=ss.length->d<m->q1n.l5 (n+1) [] m (gR g (rL r [.list 7 (ss.map StpV.fv),.list 8 (bs.map BlkV.fv),.list 1 (((ss.take i).map λs=>s.who.data.toList).map sF),.list 7 (ss.map StpV.fv),iF (ss.length:Int),iF i])) =
   q1n.l19 (n+1) [] (n+1) (gR g (rL r [.list 2 [],.list 1 [],.bool false,.list 7 (ss.map StpV.fv),.list 8 (bs.map BlkV.fv),.list 1 ((q1y ss bs).map sF),iF ((q1y ss bs).length:Int),iF 0])):=by
  intro d
  induction d with
  |zero =>
   intro i m hi hm;obtain⟨m,rfl⟩:=qSx m;obtain rfl:i=ss.length:=by omega
   have h:=l10 bs.length 0 (n+1) (by omega) (by omega);rw[CP,BG,AN]at h;rw[q1n.q1h,Ad,Ab,Bj,Aa];exact h
  |succ d ih =>
   intro i m hi hm;obtain⟨m,rfl⟩:=qSx m;have hil:i<ss.length:=by omega
   rw[q1n.q1h,Af,Ac,Aa,q9 hil];simp (disch:=omega) only[q36 hil,el1,rr];rw[q33 (by simp only[Aa,BF,Aq,Be];omega),Ac,qd (by omega),<- ih (i+1) m (by omega) (by omega),<- qdq (λb:StpV=>b.who.data.toList) hil,qdo ss[i].who];simp only[AK,AS,BG]
 have h:=l5 ss.length 0 (n+1) (by omega) (by omega);rw[CP,BG]at h;exact h
end
end
section
section
variable {g:q11} {ss:List StpV} {bs:List BlkV} {r:ResV}
theorem qfp(h:chkV g ss bs r=0):q3v g ss bs r/\q24 r=true:=by
 unfold chkV at h;split at h
 ·cases h
 ·rename_i h1;split at h
  ·cases h
  ·rename_i h2;exact⟨qee.1 (by simpa using h1),by simpa using h2⟩
theorem q6y{α:Type}{l:List α}{k:Nat}{z:α}(h:k<l.length):l.getD k z=l[k]:=by rw[AD,Ag h];rfl
theorem ok_pr(hs:q3v g ss bs r)(hr:q24 r=true){h z:Int}(h0:0<=h:=by omega)(h1:h<g.qe:=by omega)(z0:0<=z:=by omega)(z1:z<g.qa:=by omega):pOk r h z=true:=by
 obtain⟨k,rfl⟩:∃k:Nat,h=k:=⟨h.toNat,by omega⟩;obtain⟨j,rfl⟩:∃j:Nat,z=j:=⟨z.toNat,by omega⟩;have hp:=hs.p;have hk:k<r.p.length:=by omega
 have hl:=(hs.lens k (by omega)).2;rw[q6y hk]at hl;have hj:j<r.p[k].length:=by omega
 unfold q24 at hr;simp only[Ai]at hr;have hn:=Av.1 (Av.1 hr.2 _ (Ah hk)) _ (Ah hj);unfold pOk hasP;rw[show((k:Int)).toNat=k from rfl,show((j:Int)).toNat=j from rfl,q6y hk,q6y hj,hn,CG];simp only[Ai,At];omega
theorem qbg(h:q2l g ss bs=true):q39 g=true/\(∀s,s∈ss->q3s g s=true)/\∀b,b∈bs->q3j g b=true:=by
 unfold q2l at h;simp only[Ai]at h;exact⟨h.1.1.1.1.1.1.1,λs hs=>Av.1 h.1.1.1.1.2 s hs,λb hb=>Av.1 h.1.1.1.2 b hb⟩
theorem qhf{n a b:Int}:qn n a b=true↔a<=n/\n<=b:=by
 unfold qn;rw[Ai,At,At]
theorem okA_of(hs:q3v g ss bs r)(hr:q24 r=true)(who:ByteArray):okA ss bs r who=true:=by
 obtain⟨o1,o2,o3⟩:=qbg hs.ord;unfold okA;rw[Ai,Av,Av];constructor
 ·intro i hi;have hi':i<ss.length:=by rw[Cg]at hi;omega
  have hx:i<r.x.length:=by rw[hs.x];exact hi'
  have hst:=o2 _ (Ah hi');unfold q3s at hst;simp only[Ai,qhf]at hst;have hrr:=hr;unfold q24 at hrr;simp only[Ai]at hrr;have hn:=Av.1 hrr.1.1.1.1 _ (Ah hx);unfold okS;rw[Ag hi'];show(!(decide (ss[i].who=who))||(decide (i<r.x.length)&&isNum (r.x.getD i [])&&pOk r ss[i].hour ss[i].zone))=true;rw[Af hx,q6y hx,hn,ok_pr hs hr];simp
 ·intro i hi;have hi':i<bs.length:=by rw[Cg]at hi;omega
  have hx:i<r.aq.length:=by rw[hs.ac];exact hi'
  have hst:=o3 _ (Ah hi');unfold q3j at hst;simp only[Ai,qhf,At]at hst;have hall:((List.range' 0 bs[i].qty.length).all λh=>pOk r h bs[i].zone)=true:=Av.2 λh hh=>by
   have hh':h<bs[i].qty.length:=by rw[Cg]at hh;omega
   exact ok_pr hs hr (by omega) (by omega) (by omega) (by omega)
  unfold okB;rw[Ag hi'];show(!(decide (bs[i].who=who))||(decide (i<r.aq.length)&&(!(r.aq.getD i false)||(List.range' 0 bs[i].qty.length).all λh=>pOk r h bs[i].zone)))=true;rw[Af hx,hall];simp
theorem qgu(hs:q3v g ss bs r)(hr:q24 r=true){k:Nat}(hk:k<g.lq.length):q9k r g.lq[k] k=true:=by
 obtain⟨o1,o2,o3⟩:=qbg hs.ord;have hln:q3k g g.lq[k]=true:=by
  unfold q39 at o1;simp only[Ai]at o1;exact Av.1 o1.1.1.2 _ (Ah hk)
 unfold q3k at hln;simp only[Ai,qhf]at hln;have hf:=hs.f;unfold q9k;rw[Av];intro h hh;have hh':h<r.f.length:=by rw[Cg]at hh;omega
 have hl:=(hs.lens h (by omega)).1;rw[q6y hh']at hl;have hk':k<r.f[h].length:=by omega
 have hrr:=hr;unfold q24 at hrr;simp only[Ai]at hrr;have hn:=Av.1 (Av.1 hrr.1.2 _ (Ah hh')) _ (Ah hk');unfold okR;rw[q6y hh',Af hk',q6y hk',hn,ok_pr hs hr,ok_pr hs hr];rfl
end
end
section
section
variable {n K:Nat} {q:Rat} {d:Nat} {z w:Int}
theorem d_round(hq:Sz q)(hd:dn d=q.den):evF EnD (n+1) 83 [zl (q).num,zb (q).num,nL (d),.bool false]=some [zl (q2b q),zb (q2b q)]:=by
 have:evF EnD (n+1) 83 [zl (q).num,zb (q).num,nL (d),.bool false]=limO En 83 [zl (q).num,zb (q).num,nL (d),.bool false]:=by kernel_rfl
 rw[this];exact q1l (round_ev (k:=1000000000) (by omega) (by omega) hq hd)
theorem d_nsub(hK:K+1<=100000000000)(hz:z.natAbs<2^K)(hw:w.natAbs<2^K):evF EnD (n+1) 84 [zl z,zb z,zl w,zb w]=some [zl (z-w),zb (z-w)]:=by
 have:evF EnD (n+1) 84 [zl z,zb z,zl w,zb w]=limO En 84 [zl z,zb z,zl w,zb w]:=by kernel_rfl
 rw[this];exact q1l (qd0 hK hz hw)
theorem d_ntext(hK:K<=10000000000)(hz:z.natAbs<2^K):evF EnD (n+1) 85 [zl z,zb z]=some [sF (qu z)]:=by
 have:evF EnD (n+1) 85 [zl z,zb z]=limO En 85 [zl z,zb z]:=by kernel_rfl
 rw[this];exact q1l (qh4 hK hz)
theorem x_round(hq:Sz q)(hd:dn d=q.den):evF EnD (n+1) 24 [zb (q).num,wl (q).num,.bool false,wL (d)]=some [zb (q2b q),wl (q2b q)]:=by
 have:evF EnD (n+1) 24 [zb (q).num,wl (q).num,.bool false,wL (d)]=limO En 24 [zb (q).num,wl (q).num,.bool false,wL (d)]:=by kernel_rfl
 rw[this];exact q1l (wround_ev (k:=1000000000) (by omega) (by omega) hq hd)
theorem x_ntext(hK:K<=100000000000)(hz:z.natAbs<2^K):evF EnD (n+1) 25 [zb z,wl z]=some [sF (qu z)]:=by
 have:evF EnD (n+1) 25 [zb z,wl z]=limO En 25 [zb z,wl z]:=by kernel_rfl
 rw[this];exact q1l (qff hK hz)
theorem x_den1:evF EnD (n+1) 43 [zb (((1:Int):Rat)).num,wl (((1:Int):Rat)).num,.bool false,wL (((1:Int):Rat)).den]=some [.bool false,wL 1]:=by
 have:evF EnD (n+1) 43 [zb (((1:Int):Rat)).num,wl (((1:Int):Rat)).num,.bool false,wL (((1:Int):Rat)).den]=limO En 43 [zb (((1:Int):Rat)).num,wl (((1:Int):Rat)).num,.bool false,wL (((1:Int):Rat)).den]:=by kernel_rfl
 rw[this];exact q1l q6a
theorem x_make1(hK:K<=100000000000)(hK1:1<=K)(hz:z.natAbs<2^K):evF EnD (n+1) 79 [zb z,wl z,.bool false,wL 1]=some [zb ((z:Rat)).num,wl ((z:Rat)).num,.bool false,wL ((z:Rat)).den,iF 0]:=by
 have:evF EnD (n+1) 79 [zb z,wl z,.bool false,wL 1]=limO En 79 [zb z,wl z,.bool false,wL 1]:=by kernel_rfl
 rw[this];have h:=qd8 (a:=z) (b:=1) hK (by omega) hz (by have:=two_bd hK1;show 1<2^K;omega);rw[show Rat.divInt z 1=(z:Rat) from by rw[Rat.divInt_eq_div,show((1:Int):Rat)=1 from rfl];grind]at h;exact q1l h
theorem qkv{t:Txt}(h:pr t=some q)(hl:t.length<=100000000):evF EnD (n+1) 22 [sF t]=some [zb (q).num,wl (q).num,.bool false,wL (q).den,iF 0]:=by
 have:evF EnD (n+1) 22 [sF t]=evF EnA (n+1) 22 [sF t]:=by kernel_rfl
 rw[this,qel h hl]
end
theorem qmm{x m:Nat}(h:x<2^(3*m)):(qk x).length<=m+1:=by
 have h8:x<10^m:=by
  rw[Nat.pow_mul]at h;exact AR h (Eu (by omega) m)
 unfold qk;split
 ·simp
 ·have:=q59 (b:=10) (by omega) h8;simp;omega
theorem len3{m:Nat}{q:Rat}(h:Bd (3*m) q):(qy q).length<=2*m+4:=by
 have h1:=qmm h.1;have h2:=qmm h.2;unfold qy qu;split <;> split <;> simp <;> omega
theorem qfo(q:Rat):pr (qy q)=some q:=q99.2 rfl
theorem qbe(z:Int):qy (z:Rat)=qu z:=by unfold qy;rw[if_pos (show(z:Rat).den=1 from rfl)];rfl
theorem qgt{q:Rat}{k:Nat}(h:Bd k q):(q2b q).natAbs<2^(k+2):=by
 have hf:(q1d q).natAbs<2^(k+1):=qf6 (den_pos q) h.1;have h1:0<2^(k+1):=Fm _;rw[Ax];unfold q2b;split <;> omega
def entF(a c:Txt):FV:=.agg [sF a,sF c]
def whoT:Txt:=[119,104,111,45]
def qab:Txt:=[108,105,110,101,45]
def qac:Txt:=[114,111,117,110,100]
def cW(ss:List StpV)(bs:List BlkV)(r:ResV)(t:Txt):Int:=q2b (amtV ss bs r (txt t))
def cR(g:q11)(r:ResV)(k:Nat):Int:=q2b (q49 r (g.lq.getD k default) k)
def entW(ss:List StpV)(bs:List BlkV)(r:ResV)(t:Txt):FV:=entF (whoT++t) (qu (cW ss bs r t))
def entR(g:q11)(r:ResV)(k:Nat):FV:=entF (qab++qk k) (qu (cR g r k))
def sumZ:List Int->Int
 |[]=>0
 |z::l=>z+sumZ l
def totV(g:q11)(ss:List StpV)(bs:List BlkV)(r:ResV):Int:=sumZ ((q1y ss bs).map (cW ss bs r))+sumZ ((List.range' 0 g.lq.length).map (cR g r))
def q9j(g:q11)(ss:List StpV)(bs:List BlkV)(r:ResV):List FV :=
 (q1y ss bs).map (entW ss bs r)++(List.range' 0 g.lq.length).map (entR g r)++[entF qac (qu (-totV g ss bs r))]
def qad(g:q11)(ss:List StpV)(bs:List BlkV)(r:ResV):List FV :=
 bif decide (chkV g ss bs r=0)&&(q1y ss bs).all (λt=>q2t (txt t))then [.list 2 (q9j g ss bs r),iF 0]else [.list 2 [],iF 1]
theorem zl_zero':zl (0:Int)=.list 1 []:=q4z
theorem zb_zero':zb (0:Int)=.bool false:=rfl
theorem qkw(l:List (List UInt8)):(Lib.compact l).length<=l.length:=by
 unfold Lib.compact Lib.compactUpTo;rw[Aa];have h:=FB (Lib.keeps l.toArray) (List.range l.toArray.toList.length);rw[Cc]at h;exact h
section
variable {g:q11} {ss:List StpV} {bs:List BlkV} {r:ResV} {n:Nat}
theorem cW_bd(hS:Sq ss bs r)(hs:q3v g ss bs r)(hr:q24 r=true)(t:Txt):Bd 80000000 (amtV ss bs r (txt t)):=by
 obtain⟨v,d,a1,a2,a3,a4⟩:=qlu (n:=300) (who:=txt t) hS (Ak _);rw[<- a4 (okA_of hs hr _)];exact a3
theorem cR_bd(hS:Sq ss bs r)(hs:q3v g ss bs r)(hr:q24 r=true){k:Nat}(hk:k<g.lq.length):Bd 80000000 (q49 r g.lq[k] k):=by
 obtain⟨v,d,a1,a2,a3,a4⟩:=qlv (n:=300) (l:=g.lq[k]) (k:=k) hS (Ak _);rw[<- a4 (qgu hs hr hk)];exact a3
theorem qdz{i K:Nat}(hi:i<=1000:=by omega):i*2^K<2^(K+20):=by
 have h0:0<2^K:=Fm K;rw[Cb,AB];exact EC (by omega) h0
theorem step_bd{s c:Int}{i K:Nat}(h:s.natAbs<=i*2^K)(hc:c.natAbs<2^K):(s-c).natAbs<=(i+1)*2^K/\(s+c).natAbs<=(i+1)*2^K:=by
 rw[Db];omega
theorem qmn{a:Txt}{q:Rat}{d K i:Nat}{s:Int}{E:List FV}(hK:80000002<=K)(hK2:K+100<=1000000000)(hi:i<=900)(hq:Bd 80000000 q)(hd:dn d=q.den)(hs:s.natAbs<=i*2^K)(hE:E.length<=1000000) :
  evF EnD (n+2) 82 [sF a,zl (q).num,zb (q).num,nL (d),.bool false,zl s,zb s,.list 2 E]=some [zl (s-q2b q),zb (s-q2b q),.list 2 (E++[entF a (qu (q2b q))])]/\(s-q2b q).natAbs<=(i+1)*2^K:=by
 have hc:(q2b q).natAbs<2^K:=AR (qgt (hq.mono (show 80000000<=K-2 by omega))) (AW (by omega) (by omega));refine⟨?_,(step_bd hs hc).1⟩;have hs2:s.natAbs<2^(K+20):=BI hs (qdz);have hc2:(q2b q).natAbs<2^(K+20):=AR hc (AW (by omega) (by omega));rw[qr8,d_round (hq.mono) hd];simp only[rr];rw[d_nsub (K:=K+20) (by omega) hs2 hc2];simp only[rr];rw[d_ntext (K:=K) (by omega) hc];simp (disch:=omega) only[el1,rr];rw[q33 (by rw[By];omega),Ac];rfl
theorem name_at(b:Bool)(s:ByteArray)(hs:s.size<=1125899906842624):evF EnD (n+1) 87 [.str s]=some [.bool (q2t s)]/\evF EnD (n+1) 97 [.str s]=some [.bool (q2t s)]:=by
 have h1:evF EnD (n+1) 87 [.str s]=nameExt [.str s]:=by kernel_rfl
 have h2:evF EnD (n+1) 97 [.str s]=nameExt [.str s]:=by kernel_rfl
 rw[h1,h2];exact⟨if_pos hs,if_pos hs⟩
theorem itoa_at{k:Nat}(hk:k<100):evF EnD (n+1) 90 [iF k]=some [sF (qk k)]:=by
 have h1:evF EnD (n+1) 90 [iF k]=itoaExt [iF k]:=by kernel_rfl
 rw[h1];refine(if_pos (by omega)).trans ?_;rfl
theorem quk(hS:Sq ss bs r)(hs:q3v g ss bs r)(hr:q24 r=true)(hl:g.lq.length<=90){K:Nat}(hK:80000002<=K)(hK2:K+100<=1000000000)(hn:1000<=n):∀(c k m i:Nat) (s:Int) (E:List FV),k+c=g.lq.length->c<m->i+c<=800->s.natAbs<=i*2^K->E.length+c<=100000 ->
  q1n.l27 (n+9) [] m (rL r [.list 2 E,zl s,zb s,.list 3 (g.lq.map qw.fv),iF (g.lq.length:Int),iF k]) =
   some [.list 2 (E++(List.range' k c).map (entR g r)++[entF qac (qu (s-sumZ ((List.range' k c).map (cR g r))))]),iF 0]:=by
 intro c
 induction c with
 |zero =>
  intro k m i s E hk hm hi hsb hE;obtain⟨m,rfl⟩:=qSx m;obtain rfl:k=g.lq.length:=by omega
  have hs2:s.natAbs<2^(K+20):=BI hsb (qdz);rw[q1n.l27_eq,Ad,Ab,d_ntext (K:=K+20) (by omega) hs2];simp (disch:=omega) only[el1,rr];rw[q33 (by rw[By];omega),Ac,show s-sumZ ((List.range' g.lq.length 0).map (cR g r))=s from by show s-0=s;omega];show _=some [FV.list 2 (E++[]++_),_];rw[AN];rfl
 |succ c ih =>
  intro k m i s E hk hm hi hsb hE;obtain⟨m,rfl⟩:=qSx m;have hkl:k<g.lq.length:=by omega
  obtain⟨v,d,a1,a2,a3,a4⟩:=qlv (n:=n+4) (l:=g.lq[k]) (k:=k) hS (by omega);have hv:=a4 (qgu hs hr hkl);subst hv;obtain⟨p1,p2⟩:=qmn (n:=n+7) (a:=qab++qk k) hK hK2 (by omega:i<=900) a3 a2 hsb (E:=E) (by omega);have hdl:(qk k).length<=100:=by
   have:=q98 (x:=k) (k:=90) (by have:(2:Nat)^7<=2^90:=AW (by omega) (by omega);omega);omega
  rw[q1n.l27_eq,Af,Ac,Aa,q9 hkl];simp only[lin_at hkl,rr];rw[a1];simp only[rr];rw[itoa_at (n:=n+8) (by omega)];simp only[rr];rw[q1g,Ad,Ab,show({ data:=#[108,105,110,101,45] }:ByteArray)=txt qab from rfl,q5d];rw[show evF EnD (n+9) 82 _=_ from p1];simp only[rr];rw[qd (by omega),ih (k+1) m (i+1) _ _ (by omega) (by omega) (by omega) p2 (by rw[AZ,By];omega)];have ec:cR g r k=q2b (q49 r g.lq[k] k):=by unfold cR;rw[q6y hkl]
  rw[BS,AS,AS,show sumZ (cR g r k::(List.range' (k+1) c).map (cR g r))=cR g r k+sumZ ((List.range' (k+1) c).map (cR g r)) from rfl,ec,Ap E,show entR g r k=entF (qab++qk k) (qu (q2b (q49 r g.lq[k] k))) from by unfold entR;rw[ec]];rw[show s-q2b (q49 r g.lq[k] k)-sumZ ((List.range' (k+1) c).map (cR g r))=s-(q2b (q49 r g.lq[k] k)+sumZ ((List.range' (k+1) c).map (cR g r))) from by omega];rfl
theorem qul(hS:Sq ss bs r)(hs:q3v g ss bs r)(hr:q24 r=true)(hl:g.lq.length<=90){N:List Txt}(hN:N.length<=600)(hNb:∀t,t∈N->t.length<=140737488351232){K:Nat}(hK:80000002<=K)(hK2:K+100<=1000000000)(hn:1000<=n):∀(c i m:Nat) (s:Int) (E:List FV),i+c=N.length->c<m->s.natAbs<=i*2^K->E.length<=i ->
  q1n.l19 (n+9) [] m (gR g (rL r [.list 2 E,zl s,zb s,.list 7 (ss.map StpV.fv),.list 8 (bs.map BlkV.fv),.list 1 (N.map sF),iF (N.length:Int),iF i])) =
   some (bif(N.drop i).all (λt=>q2t (txt t))then [.list 2 (E++(N.drop i).map (entW ss bs r)++(List.range' 0 g.lq.length).map (entR g r)++[entF qac (qu (s-sumZ ((N.drop i).map (cW ss bs r))-sumZ ((List.range' 0 g.lq.length).map (cR g r))))]),iF 0]else [.list 2 [],iF 1]):=by
 intro c
 induction c with
 |zero =>
  intro i m s E hi hm hsb hE;obtain⟨m,rfl⟩:=qSx m;obtain rfl:i=N.length:=by omega
  have h:=quk hS hs hr hl hK hK2 hn g.lq.length 0 (n+9) N.length s E (by omega) (by omega) (by omega) hsb (by omega);rw[q1n.q4j,Ad,Ab,Aa,Eh];refine h.trans ?_;rw[show([]:List Txt).all (λt=>q2t (txt t))=true from rfl,Ac,BG,AN,show s-sumZ (([]:List Txt).map (cW ss bs r))=s from by show s-0=s;omega]
 |succ c ih =>
  intro i m s E hi hm hsb hE;obtain⟨m,rfl⟩:=qSx m;have hil:i<N.length:=by omega
  have hb:=hNb _ (Ah hil);obtain⟨h87,_⟩:=name_at (n:=n+8) true (txt N[i]) (by rw[q1g];omega);rw[q1n.q4j,Af,Ac,Aa,q9 hil];simp only[q78 hil,rr];rw[h87];simp only[rr];rw[Bc hil,Bk];cases hnv:q2t (txt N[i])with
  |false=>rfl
  |true =>
   obtain⟨v,d,a1,a2,a3,a4⟩:=qlu (n:=n+2) (who:=txt N[i]) hS (by omega);have hv:=a4 (okA_of hs hr _);subst hv;obtain⟨p1,p2⟩:=qmn (n:=n+7) (a:=whoT++N[i]) hK hK2 (by omega:i<=900) a3 a2 hsb (E:=E) (by omega);rw[Ao,Ab,AA,a1];simp only[rr];rw[q1g,Ad,Ab,show({ data:=#[119,104,111,45] }:ByteArray)=txt whoT from rfl,q5d];rw[show evF EnD (n+9) 82 _=_ from p1];simp only[rr];rw[qd (by omega),ih (i+1) m _ _ (by omega) (by omega) p2 (by rw[AZ,By];omega)];rw[AS,AS,show sumZ (cW ss bs r N[i]::(N.drop (i+1)).map (cW ss bs r))=cW ss bs r N[i]+sumZ ((N.drop (i+1)).map (cW ss bs r)) from rfl,Ap E];rw[show s-(cW ss bs r N[i]+sumZ ((N.drop (i+1)).map (cW ss bs r)))=s-q2b (amtV ss bs r (txt N[i]))-sumZ ((N.drop (i+1)).map (cW ss bs r)) from by unfold cW;omega];rfl
theorem qpn(h:Sm g ss bs r)(hS:Sq ss bs r)(hws:∀s,s∈ss->s.who.size<=140737488351232)(hwb:∀b,b∈bs->b.who.size<=140737488351232)(hn:1000<=n) :
  evF EnD (n+10) 23 (gR g (.list 7 (ss.map StpV.fv)::.list 8 (bs.map BlkV.fv)::rL r []))=some (qad g ss bs r):=by
 have h15:evF EnD (n+9) 15 (gR g (.list 7 (ss.map StpV.fv)::.list 8 (bs.map BlkV.fv)::rL r []))=some [iF (chkV g ss bs r)]:=by
  have:evF EnD (n+9) 15 (gR g (.list 7 (ss.map StpV.fv)::.list 8 (bs.map BlkV.fv)::rL r []))=limO EnB 15 (gR g (.list 7 (ss.map StpV.fv)::.list 8 (bs.map BlkV.fv)::rL r [])):=by kernel_rfl
  rw[this];refine q1l ⟨2,λn hn=>?_⟩;obtain⟨k,rfl⟩:∃k,n=k+2:=⟨n-2,by omega⟩;exact check_run h
 rw[qr5,h15];simp only[rr];unfold qad;by_cases hc:chkV g ss bs r=0
 ·obtain⟨hs,hr⟩:=qfp hc;obtain⟨K,hK,hK2⟩:∃K,80000002<=K/\K+100<=1000000000:=⟨80000002,by omega,by omega⟩;have hl:g.lq.length<=90:=by
   obtain⟨o1,_⟩:=qbg hs.ord;unfold q39 at o1;simp only[Ai,At]at o1;omega
  have hm:∀t,t∈q1y ss bs->t.length<=140737488351232:=λt ht=>by
   rw[qgc]at ht;unfold whoL at ht;rcases BD.1 ht with q | q
   ·obtain⟨s,hs1,rfl⟩:=Bp.1 q;rw[Bz];exact hws s hs1
   ·obtain⟨s,hs1,rfl⟩:=Bp.1 q;rw[Bz];exact hwb s hs1
  have hlen:(q1y ss bs).length<=600:=by
   have h1:=qkw (sortL (whoL ss bs));have h2:(sortL (whoL ss bs)).length=(whoL ss bs).length:=(Fb _ _).length_eq;have h3:(whoL ss bs).length=ss.length+bs.length:=by unfold whoL;simp only[AZ,Aa]
   have:=hS.ssl;have:=hS.bsl;show(Lib.compact (sortL (whoL ss bs))).length<=600;omega
  rw[hc,show((0:Int) !=0)=false from rfl,Ab,Aa,Af rfl,AA];have e1:=qqs (n:=n+8) (L:=[]) hS.ssl hS.bsl (by omega) (g:=g) (r:=r);have e2:=qul hS hs hr hl hlen hm hK hK2 hn (q1y ss bs).length 0 (n+9) 0 [] (by omega) (by omega) (by simp) (by simp);rw[zl_zero',zb_zero']at e2;refine(e1.trans e2).trans ?_;unfold q9j totV;rw[Au,As,show(0:Int)-sumZ ((q1y ss bs).map (cW ss bs r))-sumZ ((List.range' 0 g.lq.length).map (cR g r))=-(sumZ ((q1y ss bs).map (cW ss bs r))+sumZ ((List.range' 0 g.lq.length).map (cR g r))) from by omega]
 ·rw[show(chkV g ss bs r !=0)=true from by simpa using hc,Ac,Ad hc];rfl
end
end
end
end Rf
