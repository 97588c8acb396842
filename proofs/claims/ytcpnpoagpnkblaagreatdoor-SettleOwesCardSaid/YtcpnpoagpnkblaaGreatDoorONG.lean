/- Texts of this work put together, their blanks and comments taken out: Am3, Nms, Okk. -/
import Derived.Test.YtcpnpoagpnkblaaGreatDoorONF
set_option linter.unusedVariables false
set_option linter.unusedSimpArgs false
set_option maxHeartbeats 4000000
namespace Rf
open Go
section
section
variable {n:Nat} {q r:Rat} {d e:Nat}
theorem wl_zero:wl (0:Rat).num=.list 1 []:=by rw[show wl (0:Rat).num=wL 0 from rfl,qbj]
theorem x_of{z:Int}(h1:-9223372036854775808<=z:=by omega)(h2:z<=9223372036854775807:=by omega):evF EnD (n+1) 12 [iF z]=some [zb ((z:Rat)).num,wl ((z:Rat)).num,.bool false,wL ((z:Rat)).den]:=by
 have:evF EnD (n+1) 12 [iF z]=evF EnA (n+1) 12 [iF z]:=by kernel_rfl
 rw[this,w_of h1 h2]
theorem qaz(hq:Sz q)(hr:Sz r)(hd:dn d=q.den)(he:dn e=r.den):evF EnD (n+1) 37 [zb (q).num,wl (q).num,.bool false,wL (d),zb (r).num,wl (r).num,.bool false,wL (e)]=some [zb (q+r).num,wl (q+r).num,.bool false,wL (q+r).den]:=by
 have:evF EnD (n+1) 37 [zb (q).num,wl (q).num,.bool false,wL (d),zb (r).num,wl (r).num,.bool false,wL (e)]=evF EnA (n+1) 37 [zb (q).num,wl (q).num,.bool false,wL (d),zb (r).num,wl (r).num,.bool false,wL (e)]:=by kernel_rfl
 rw[this,w_add hq hr hd he]
theorem x_sub(hq:Sz q)(hr:Sz r)(hd:dn d=q.den)(he:dn e=r.den):evF EnD (n+1) 92 [zb (q).num,wl (q).num,.bool false,wL (d),zb (r).num,wl (r).num,.bool false,wL (e)]=some [zb (q-r).num,wl (q-r).num,.bool false,wL (q-r).den]:=by
 have:evF EnD (n+1) 92 [zb (q).num,wl (q).num,.bool false,wL (d),zb (r).num,wl (r).num,.bool false,wL (e)]=evF EnA (n+1) 92 [zb (q).num,wl (q).num,.bool false,wL (d),zb (r).num,wl (r).num,.bool false,wL (e)]:=by kernel_rfl
 rw[this,w_sub hq hr hd he]
theorem x_mul(hq:Sz q)(hr:Sz r)(hd:dn d=q.den)(he:dn e=r.den):evF EnD (n+1) 13 [zb (q).num,wl (q).num,.bool false,wL (d),zb (r).num,wl (r).num,.bool false,wL (e)]=some [zb (q*r).num,wl (q*r).num,.bool false,wL (q*r).den]:=by
 have:evF EnD (n+1) 13 [zb (q).num,wl (q).num,.bool false,wL (d),zb (r).num,wl (r).num,.bool false,wL (e)]=evF EnA (n+1) 13 [zb (q).num,wl (q).num,.bool false,wL (d),zb (r).num,wl (r).num,.bool false,wL (e)]:=by kernel_rfl
 rw[this,w_mul hq hr hd he]
theorem x_neg(hd:dn d=q.den):evF EnD (n+1) 39 [zb (q).num,wl (q).num,.bool false,wL (d)]=some [zb (-q).num,wl (-q).num,.bool false,wL (-q).den]:=by
 have:evF EnD (n+1) 39 [zb (q).num,wl (q).num,.bool false,wL (d)]=evF EnA (n+1) 39 [zb (q).num,wl (q).num,.bool false,wL (d)]:=by kernel_rfl
 rw[this,w_neg hd]
theorem x_text(hq:Sz q)(hd:dn d=q.den):evF EnD (n+1) 14 [zb (q).num,wl (q).num,.bool false,wL (d)]=some [sF (qx q)]:=by
 have:evF EnD (n+1) 14 [zb (q).num,wl (q).num,.bool false,wL (d)]=evF EnA (n+1) 14 [zb (q).num,wl (q).num,.bool false,wL (d)]:=by kernel_rfl
 rw[this,w_text hq hd]
theorem qhg{t:Txt}(hl:t.length<=256):∃d,evF EnD (n+1) 22 [sF t]=some [zb (rd t).num,wl (rd t).num,.bool false,wL (d),iF (if isNum t=true then 0 else 10)]/\dn d=(rd t).den:=by
 have:evF EnD (n+1) 22 [sF t]=evF EnA (n+1) 22 [sF t]:=by kernel_rfl
 rw[this];cases h:pr t with
 |some q =>
  refine⟨q.den,?_,?_⟩
  ·rw[qf5 h,rd_some h];unfold isNum;rw[h];rfl
  ·rw[rd_some h,qb]
 |none =>
  have e:rd t=0:=by unfold rd;rw[h];rfl
  refine⟨0,?_,?_⟩
  ·rw[w_bad h,e,wl_zero,q4u,qbj];unfold isNum;rw[h];rfl
  ·rw[e];rfl
end
section
variable {g:q10} {ss:List StpV} {bs:List BlkV} {r:ResV} {n:Nat} {who:ByteArray}
theorem qca(hS:Sq ss bs r)(h z:Int):∃d,evF EnD (n+2) 101 (rL r [iF h,iF z])=some [zb (prP r h z).num,wl (prP r h z).num,.bool false,wL (d),.bool (pOk r h z)]/\dn d=(prP r h z).den:=by
 have no:hasP r h z=false->prP r h z=0/\pOk r h z=false:=λq=>by
  unfold prP pOk;rw[q];exact⟨rfl,rfl⟩
 have nf:hasP r h z=false->evF EnD (n+2) 101 (rL r [iF h,iF z])=some [.bool false,.list 1 [],.bool false,.list 1 [],.bool false]->∃d,evF EnD (n+2) 101 (rL r [iF h,iF z])=some [zb (prP r h z).num,wl (prP r h z).num,.bool false,wL (d),.bool (pOk r h z)]/\dn d=(prP r h z).den:=λq e=>by
  obtain⟨e1,e2⟩:=no q;refine⟨0,?_,?_⟩
  ·rw[e,e1,e2,wl_zero,q4u,qbj]
  ·rw[e1];rfl
 by_cases c1:h<0
 ·refine nf (by unfold hasP;rw[Ad (p:=0<=h) (by omega)];rfl) ?_;rw[qbz,Af c1,Ac]
 by_cases c2:h<(r.p.length:Int)
 ·by_cases c3:z<0
  ·refine nf (by unfold hasP;rw[Ad (p:=0<=z) (by omega),CF];rfl) ?_;rw[qbz,Ad c1,Ab,Aa,Ad,Ab,Af c3,Ac]
  ·obtain⟨k,rfl⟩:∃k:Nat,h=k:=⟨h.toNat,by omega⟩;obtain⟨j,rfl⟩:∃j:Nat,z=j:=⟨z.toNat,by omega⟩;have k1:k<r.p.length:=by omega
   by_cases c4:j<r.p[k].length
   ·have hf:=(hS.p _ (Ah k1)).2 _ (Ah c4);have hp:hasP r k j=true:=by
     unfold hasP;rw[show((k:Int)).toNat=k from rfl,q78 k1];simp only[Ai,As];omega
    have e1:prP r k j=rd r.p[k][j]:=by
     unfold prP;rw[if_pos hp];unfold ResV.pAt;rw[show((k:Int)).toNat=k from rfl,show((j:Int)).toNat=j from rfl,q78 k1,AG,Ag c4];rfl
    have e2:pOk r k j=isNum r.p[k][j]:=by
     unfold pOk;rw[hp,AB,show((k:Int)).toNat=k from rfl,show((j:Int)).toNat=j from rfl,q78 k1,AG,Ag c4];rfl
    obtain⟨d,d1,d2⟩:=qhg (n:=n) hf;rw[e1,e2];refine⟨d,?_,d2⟩;rw[qbz,Ad c1,Ab,Aa,Ad,Ab,Ad c3,Ab,q9 k1,Ae,q2f k1,qy,Ae,Aa,Ad,Ab,Ae,q2f k1,qy,Ae,Aa,q9 c4,Ae,q8s c4,q2k,Ae,d1];simp only[rr];cases isNum r.p[k][j] <;> rfl
   ·refine nf (by unfold hasP;rw[show((k:Int)).toNat=k from rfl,q78 k1,Ad (p:=(j:Int)<(r.p[k].length:Int)) (by omega),CF]) ?_;rw[qbz,Ad c1,Ab,Aa,Ad,Ab,Ad c3,Ab,q9 k1,Ae,q2f k1,qy,Ae,Aa,Af,Ac]
 ·refine nf (by unfold hasP;rw[Ad c2,CF,Ck,Ck]) ?_;rw[qbz,Ad c1,Ab,Aa,Af,Ac]
theorem wterm(hS:Sq ss bs r){i m:Nat}(hi:i<ss.length){q:Rat}(hq:Sz q):q1a.l3 (n+3) [] (m+1) (rL r [zb (q).num,wl (q).num,.bool false,wL (q).den,.list 7 (ss.map StpV.fv),.list 8 (bs.map BlkV.fv),.str who,iF i]) =
  bif okS r who ss i then q1a.l3 (n+3) [] m (rL r [zb (q+valS r who ss i).num,wl (q+valS r who ss i).num,.bool false,wL (q+valS r who ss i).den,.list 7 (ss.map StpV.fv),.list 8 (bs.map BlkV.fv),.str who,iF ((i+1:Nat):Int)])else some [sF [],iF 120]:=by
 have hl:=hS.ssl;have eo:okS r who ss i=(!(decide (ss[i].who=who))||(decide (i<r.x.length)&&isNum (r.x.getD i [])&&pOk r ss[i].hour ss[i].zone)):=by unfold okS;rw[Ag hi]
 have ev:valS r who ss i=if ss[i].who=who then sgnQ ss[i].buy (r.xAt i*prP r ss[i].hour ss[i].zone)else 0:=by unfold valS;rw[Ag hi]
 rw[eo,ev,q1a.qm,Aa,Af,Ac,q9 hi];simp only[q2z hi,rr];by_cases hw:ss[i].who=who
 ·have hb:(ss[i].who.toList==who.toList)=true:=by rw[toList_eq,Af hw]
  rw[Af hw,if_pos hw,hb,Am,BR,Ab,Aa];by_cases hx:i<r.x.length
  ·have hxl:=hS.x _ (Ah hx);have ex:r.x.getD i []=r.x[i]:=by rw[AG,Ag hx];rfl
   have exa:r.xAt i=rd r.x[i]:=by unfold ResV.xAt;rw[ex]
   obtain⟨d1,p1,p2⟩:=qhg (n:=n+2) hxl;obtain⟨d2,p3,p4⟩:=qca (n:=n+1) hS ss[i].hour ss[i].zone;have b1:Bd 1024 (rd r.x[i]):=q3c hxl;have b2:=q79 hS ss[i].hour ss[i].zone;have s1:Sz (rd r.x[i]):=b1.mono (by omega);have s2:Sz (prP r ss[i].hour ss[i].zone):=b2.mono (by omega);rw[Af hx,AB,ex,exa,Ad,Ab,q9 hx,Ae,q8s hx,q2k,Ae,p1];simp only[rr];rw[p3];simp only[rr];cases hn:isNum r.x[i]with
   |false=>rfl
   |true =>
    rw[if_pos rfl,show((0:Int) !=0)=false from rfl,Ab,AB];cases hp:pOk r ss[i].hour ss[i].zone with
    |false=>rfl
    |true =>
     rw[Am,Ab,Ac];cases hbuy:ss[i].buy with
     |true =>
      have s3:Sz (-rd r.x[i]*prP r ss[i].hour ss[i].zone):=(b1.neg.mul b2).mono (by omega);rw[Ac,x_neg p2];simp only[rr];rw[x_mul (b1.neg.mono (by omega)) s2 (qb _) p4];simp only[rr];rw[qaz hq s3 (qb _) (qb _)];simp only[rr];rw[qc,show sgnQ true (rd r.x[i]*prP r ss[i].hour ss[i].zone)=-rd r.x[i]*prP r ss[i].hour ss[i].zone from by show -(_)=_;grind]
     |false =>
      have s3:Sz (rd r.x[i]*prP r ss[i].hour ss[i].zone):=(b1.mul b2).mono (by omega);rw[Ab,x_mul s1 s2 p2 p4];simp only[rr];rw[qaz hq s3 (qb _) (qb _)];simp only[rr];rw[qc,show sgnQ false (rd r.x[i]*prP r ss[i].hour ss[i].zone)=rd r.x[i]*prP r ss[i].hour ss[i].zone from rfl]
  ·rw[Ad hx,Af,Ac];rfl
 ·rw[toList_eq,Ad hw,if_neg hw,AV,Dc,Ac,Ac,qc,show q+0=q from by grind]
theorem winner(hS:Sq ss bs r){i m0:Nat}(hi:i<bs.length)(hx:i<r.accept.length)(hn:300<=n){q:Rat}{B:Nat}(hB:B+1089*256<=1000000000)(hq:Bd B q)(ha:r.accept[i]=true) :
  q1a.l24 (n+3) [m0] (n+3) (rL r [zb (q).num,wl (q).num,.bool false,wL (q).den,.str bs[i].who,iF bs[i].seq,iF bs[i].zone,.bool bs[i].buy,iF bs[i].qe,.list 1 (bs[i].qty.map iF),iF bs[i].parent,iF bs[i].group,.list 8 (bs.map BlkV.fv),.str who,iF i,iF 0]) =
   (bif(List.range' 0 bs[i].qty.length).all (λh=>pOk r h bs[i].zone)then q1a.l17 (n+3) [] m0 (rL r [zb (q+sumI (valQ r bs[i]) 0 bs[i].qty.length).num,wl (q+sumI (valQ r bs[i]) 0 bs[i].qty.length).num,.bool false,wL (q+sumI (valQ r bs[i]) 0 bs[i].qty.length).den,.list 8 (bs.map BlkV.fv),.str who,iF ((i+1:Nat):Int)])else some [sF [],iF 120]):=by
 have hl:=hS.bsl;have hm:=Ah hi;have hl2:=hS.q _ hm
 exact(qgg (F:=λm h q=>q1a.l24 (n+3) [m0] m (rL r [zb (q).num,wl (q).num,.bool false,wL (q).den,.str bs[i].who,iF bs[i].seq,iF bs[i].zone,.bool bs[i].buy,iF bs[i].qe,.list 1 (bs[i].qty.map iF),iF bs[i].parent,iF bs[i].group,.list 8 (bs.map BlkV.fv),.str who,iF i,iF (h:Int)])) (len:=bs[i].qty.length) (f:=valQ r bs[i]) (ok:=λh=>pOk r h bs[i].zone)
  (fin:=λq=>q1a.l17 (n+3) [] m0 (rL r [zb (q).num,wl (q).num,.bool false,wL (q).den,.list 8 (bs.map BlkV.fv),.str who,iF ((i+1:Nat):Int)])) (stop:=some [sF [],iF 120]) 1088 B
  (λm h q hh hq ho=>by
   show q1a.l24 (n+3) [m0] (m+1) _=_;obtain⟨z1,z2⟩:=hS.z _ hm _ (Ah hh);obtain⟨d2,p3,p4⟩:=qca (n:=n+1) hS h bs[i].zone;rw[ho]at p3;have b2:=q79 hS h bs[i].zone;have b1:=q9n z1 z2;have s1:Sz (prP r h bs[i].zone):=b2.mono (by omega);have ev:valQ r bs[i] h=sgnQ bs[i].buy (prP r h bs[i].zone*((bs[i].qty[h]:Int):Rat)):=by unfold valQ;rw[AG,Ag hh];rfl
   rw[q1a.qe9,Aa,Af,Ac,Aa,q9 hx,Ae,q4z hx,q41,Ae,ha,Ac,p3];simp only[rr];rw[Am,Ab,q9 hh];simp only[q4j hh,rr];rw[x_of z1 z2];simp only[rr];rw[ev];cases hbuy:bs[i].buy with
   |true =>
    have s3:Sz (-((bs[i].qty[h]:Int):Rat)*prP r h bs[i].zone):=(b1.neg.mul b2).mono (by omega);rw[Ac,x_neg (qb _)];simp only[rr];rw[x_mul (b1.neg.mono (by omega)) s1 (qb _) p4];simp only[rr];rw[qaz hq s3 (qb _) (qb _)];simp only[rr];rw[qc,show sgnQ true (prP r h bs[i].zone*((bs[i].qty[h]:Int):Rat))=-((bs[i].qty[h]:Int):Rat)*prP r h bs[i].zone from by show -(_)=_;grind]
   |false =>
    have s3:Sz (((bs[i].qty[h]:Int):Rat)*prP r h bs[i].zone):=(b1.mul b2).mono (by omega);rw[Ab,x_mul (b1.mono (by omega)) s1 (qb _) p4];simp only[rr];rw[qaz hq s3 (qb _) (qb _)];simp only[rr]
    rw[qc,show sgnQ false (prP r h bs[i].zone*((bs[i].qty[h]:Int):Rat))=((bs[i].qty[h]:Int):Rat)*prP r h bs[i].zone from Rat.mul_comm _ _])
  (λm h q hh hq ho=>by
   show q1a.l24 (n+3) [m0] (m+1) _=_;obtain⟨d2,p3,p4⟩:=qca (n:=n+1) hS h bs[i].zone;rw[ho]at p3;rw[q1a.qe9,Aa,Af,Ac,Aa,q9 hx,Ae,q4z hx,q41,Ae,ha,Ac,p3];simp only[rr]
   rw[AV,Ac];rfl)
  (λm q hq=>by
   show q1a.l24 (n+3) [m0] (m+1) _=_
   rw[q1a.qe9,Aa,Ad,Ab,qc])
  (λh hh ho=>qef hS hm h) (by omega) bs[i].qty.length 0 (n+3) q (by omega) (by omega) hq).1
theorem wbterm(hS:Sq ss bs r){i m:Nat}(hi:i<bs.length)(hn:300<=n){q:Rat}{B:Nat}(hB:B+1089*256<=1000000000)(hq:Bd B q) :
  q1a.l17 (n+3) [] (m+1) (rL r [zb (q).num,wl (q).num,.bool false,wL (q).den,.list 8 (bs.map BlkV.fv),.str who,iF i]) =
  bif okB r who bs i then q1a.l17 (n+3) [] m (rL r [zb (q+valB r who bs i).num,wl (q+valB r who bs i).num,.bool false,wL (q+valB r who bs i).den,.list 8 (bs.map BlkV.fv),.str who,iF ((i+1:Nat):Int)])else some [sF [],iF 120]:=by
 have hl:=hS.bsl;have eo:okB r who bs i=(!(decide (bs[i].who=who))||(decide (i<r.accept.length)&&(!(r.accept.getD i false)||(List.range' 0 bs[i].qty.length).all λh=>pOk r h bs[i].zone))):=by unfold okB;rw[Ag hi]
 have ev:valB r who bs i=if bs[i].who=who then(if r.accept.getD i false=true then sumI (valQ r bs[i]) 0 bs[i].qty.length else 0)else 0:=by unfold valB;rw[Ag hi]
 have z0:q+0=q:=by grind
 rw[eo,ev,q1a.l17_eq,Aa,Af,Ac,q9 hi];simp only[q2g hi,rr];by_cases hw:bs[i].who=who
 ·have hb:(bs[i].who.toList==who.toList)=true:=by rw[toList_eq,Af hw]
  rw[Af hw,if_pos hw,hb,Am,BR,Ab,Aa];by_cases hx:i<r.accept.length
  ·have ex:r.accept.getD i false=r.accept[i]:=by rw[AG,Ag hx];rfl
   rw[Af hx,AB,ex,Ad,Ab];cases ha:r.accept[i]with
   |true =>
    rw[winner hS hi hx hn hB hq ha,Am,BR,if_pos rfl]
   |false =>
    rw[AV,Dc,Ac,if_neg (by simp),z0,q1a.qe9,Aa];by_cases hz:0<bs[i].qty.length
    ·rw[Af,Ac,Aa,q9 hx,Ae,q4z hx,q41,Ae,ha,Ab,qc]
    ·rw[Ad,Ab,qc]
  ·rw[Ad hx,Af,Ac];rfl
 ·rw[toList_eq,Ad hw,if_neg hw,AV,Dc,Ac,Ac,qc,z0]
theorem wblocks(hS:Sq ss bs r)(hn:300<=n):∀(c i m:Nat) (q:Rat),i+c=bs.length->c<m->Bd (600000+278787*i) q ->
  q1a.l17 (n+3) [] m (rL r [zb (q).num,wl (q).num,.bool false,wL (q).den,.list 8 (bs.map BlkV.fv),.str who,iF i]) =
   bif(List.range' i c).all (okB r who bs)then some [sF (qx (q+sumI (valB r who bs) i c)),iF 0]else some [sF [],iF 120]:=by
 have hl:=hS.bsl;intro c
 induction c with
 |zero =>
  intro i m q hi hm hq;obtain⟨m,rfl⟩:=qSx m;obtain rfl:i=bs.length:=by omega
  rw[q1a.l17_eq,Aa,Ad,Ab,x_text (hq.mono (by omega)) (qb _)];simp only[rr];have e:q+sumI (valB r who bs) bs.length 0=q:=by unfold sumI;grind
  rw[e];rfl
 |succ c ih =>
  intro i m q hi hm hq;obtain⟨m,rfl⟩:=qSx m;rw[wbterm hS (by omega) hn (B:=600000+278787*i) (by omega) hq,BK,Bk];cases ho:okB r who bs i with
  |false=>rfl
  |true =>
   have hb:=valB_bd (n:=n) hS hn (by omega) ho;rw[Ac,AB,ih (i+1) m (q+valB r who bs i) (by omega) (by omega) ((hq.add hb).mono (by omega))];rw[show q+valB r who bs i+sumI (valB r who bs) (i+1) c=q+sumI (valB r who bs) i (c+1) from by show _=q+(valB r who bs i+sumI (valB r who bs) (i+1) c);grind]
theorem qto(hS:Sq ss bs r)(hn:300<=n):evF EnD (n+4) 33 (.list 7 (ss.map StpV.fv)::.list 8 (bs.map BlkV.fv)::rL r [.str who]) =
  some (bif okA ss bs r who then [sF (qx (amtV ss bs r who)),iF 0]else [sF [],iF 120]):=by
 have hl:=hS.ssl;obtain⟨e1,e2⟩:=qgg (F:=λm i q=>q1a.l3 (n+3) [] m (rL r [zb (q).num,wl (q).num,.bool false,wL (q).den,.list 7 (ss.map StpV.fv),.list 8 (bs.map BlkV.fv),.str who,iF (i:Int)])) (len:=ss.length) (f:=valS r who ss) (ok:=okS r who ss)
  (fin:=λq=>q1a.l17 (n+3) [] (n+3) (rL r [zb (q).num,wl (q).num,.bool false,wL (q).den,.list 8 (bs.map BlkV.fv),.str who,iF 0])) (stop:=some [sF [],iF 120]) 2048 65
  (λm i q hi hq ho=>by
   show q1a.l3 (n+3) [] (m+1) _=_
   rw[wterm hS hi hq,ho,Ac])
  (λm i q hi hq ho=>by
   show q1a.l3 (n+3) [] (m+1) _=_
   rw[wterm hS hi hq,ho,Ab])
  (λm q hq=>by
   show q1a.l3 (n+3) [] (m+1) _=_
   rw[q1a.qm,Aa,Ad,Ab])
  (λi hi ho=>qeg hS hi ho) (by omega) ss.length 0 (n+3) ((0:Int):Rat) (by omega) (by omega) ((q9n (z:=0)).mono (by omega))
 rw[qse,x_of (z:=0)];simp only[rr];refine e1.trans ?_;unfold okA;cases h:(List.range' 0 ss.length).all (okS r who ss)with
 |false=>rfl
 |true =>
  rw[Ac,AB];refine(wblocks hS hn bs.length 0 (n+3) _ (by omega) (by have:=hS.bsl;omega) ((e2 h).mono (by omega))).trans ?_;unfold amtV;rw[show((0:Int):Rat)+sumI (valS r who ss) 0 ss.length+sumI (valB r who bs) 0 bs.length=sumI (valS r who ss) 0 ss.length+sumI (valB r who bs) 0 bs.length from by rw[show((0:Int):Rat)=0 from rfl];grind];cases(List.range' 0 bs.length).all (okB r who bs) <;> rfl
theorem wrterm(hS:Sq ss bs r){l:qz}{k h m:Nat}(hh:h<r.f.length){q:Rat}(hq:Sz q):q58.l6 (n+3) [] (m+1) (rL r [zb (q).num,wl (q).num,.bool false,wL (q).den,iF l.src,iF l.dst,iF l.cap,iF k,iF h]) =
  bif okR r l k h then q58.l6 (n+3) [] m (rL r [zb (q+valR r l k h).num,wl (q+valR r l k h).num,.bool false,wL (q+valR r l k h).den,iF l.src,iF l.dst,iF l.cap,iF k,iF ((h+1:Nat):Int)])else some [sF [],iF 120]:=by
 have hl:=hS.fl;have ef:r.f.getD h []=r.f[h]:=by rw[AG,Ag hh];rfl
 rw[q58.q2o,Aa,Af,Ac,q9 hh,Ae,q2f hh,qy,Ae,Aa];by_cases hk:k<r.f[h].length
 ·have hx:=(hS.f _ (Ah hh)).2 _ (Ah hk);have ex:r.f[h].getD k []=r.f[h][k]:=by rw[AG,Ag hk];rfl
  have eo:okR r l k h=(isNum r.f[h][k]&&pOk r h l.src&&pOk r h l.dst):=by unfold okR;rw[ef,ex,Af hk,AB]
  have ev:valR r l k h=rd r.f[h][k]*(prP r h l.dst-prP r h l.src):=by unfold valR ResV.fAt;rw[ef,ex]
  obtain⟨d1,p1,p2⟩:=qhg (n:=n+2) hx;obtain⟨d2,p3,p4⟩:=qca (n:=n+1) hS h l.src;obtain⟨d3,p5,p6⟩:=qca (n:=n+1) hS h l.dst;have b1:Bd 1024 (rd r.f[h][k]):=q3c hx;have b2:=q79 hS h l.src;have b3:=q79 hS h l.dst;have s1:Sz (rd r.f[h][k]):=b1.mono (by omega);have s2:Sz (prP r h l.src):=b2.mono (by omega);have s3:Sz (prP r h l.dst):=b3.mono (by omega);have b4:=b3.sub b2;have s4:Sz (prP r h l.dst-prP r h l.src):=b4.mono (by omega);have s5:Sz (rd r.f[h][k]*(prP r h l.dst-prP r h l.src)):=(b1.mul b4).mono (by omega);rw[eo,ev,Ad,Ab,Ae,q2f hh,qy,Ae,Aa,q9 hk,Ae,q8s hk,q2k,Ae,p1];simp only[rr];rw[p3];simp only[rr];rw[p5];simp only[rr];cases hn:isNum r.f[h][k]with
  |false=>rfl
  |true =>
   rw[if_pos rfl,show((0:Int) !=0)=false from rfl,Ab,AB];cases hp:pOk r h l.src with
   |false=>rfl
   |true =>
    rw[Am,Ab,AB];cases hp2:pOk r h l.dst with
    |false=>rfl
    |true =>
     rw[Am,Ab,Ac,x_sub s3 s2 p6 p4];simp only[rr];rw[x_mul s1 s4 p2 (qb _)];simp only[rr];rw[qaz hq s5 (qb _) (qb _)];simp only[rr];rw[qc]
 ·have eo:okR r l k h=false:=by unfold okR;rw[ef,Ad hk];rfl
  rw[eo,Af,Ac];rfl
theorem valR_bd(hS:Sq ss bs r){l:qz}{k:Nat}{h:Nat}(hh:h<r.f.length)(ho:okR r l k h=true):Bd 3074 (valR r l k h):=by
 obtain⟨v,dv,t1,t2,t3,t4⟩:=qeh (n:=0) (l:=l) (k:=k) hS hh;rw[<- t4 ho];exact t3
theorem wRent_run(hS:Sq ss bs r)(hn:300<=n)(z:Int):evF EnD (n+4) 35 (gR g (rL r [iF z])) =
  some (if h:0<=z/\z<(g.lines.length:Int)then(bif q9u r (g.lines.getD z.toNat default) z.toNat then [sF (qx (q56 r (g.lines.getD z.toNat default) z.toNat)),iF 0]else [sF [],iF 120])else [sF [],iF 1]):=by
 by_cases c1:z<0
 ·rw[qhb,Af c1,Ac,Cg (by omega)];rfl
 by_cases c2:z<(g.lines.length:Int)
 ·obtain⟨k,rfl⟩:∃k:Nat,z=k:=⟨z.toNat,by omega⟩;have hk:k<g.lines.length:=by omega
  have el:g.lines.getD k default=g.lines[k]:=by rw[AG,Ag hk];rfl
  have hl:=hS.fl;rw[BY (by omega),show((k:Int)).toNat=k from rfl,el];obtain⟨e1,e2⟩:=qgg (F:=λm i q=>q58.l6 (n+3) [] m (rL r [zb (q).num,wl (q).num,.bool false,wL (q).den,iF g.lines[k].src,iF g.lines[k].dst,iF g.lines[k].cap,iF k,iF (i:Int)])) (len:=r.f.length) (f:=valR r g.lines[k] k) (ok:=okR r g.lines[k] k)
   (fin:=λq=>some [sF (qx q),iF 0]) (stop:=some [sF [],iF 120]) 3074 65
   (λm i q hi hq ho=>by
    show q58.l6 (n+3) [] (m+1) _=_
    rw[wrterm hS hi hq,ho,Ac])
   (λm i q hi hq ho=>by
    show q58.l6 (n+3) [] (m+1) _=_
    rw[wrterm hS hi hq,ho,Ab])
   (λm q hq=>by
    show q58.l6 (n+3) [] (m+1) _=_;rw[q58.q2o,Aa,Ad,Ab,x_text hq (qb _)]
    simp only[rr])
   (λi hi ho=>valR_bd hS hi ho) (by omega) r.f.length 0 (n+3) ((0:Int):Rat) (by omega) (by omega) ((q9n (z:=0)).mono (by omega))
  rw[qhb,Ad c1,Ab,Aa,Ad,Ab,x_of (z:=0)];simp only[rr];rw[q9 hk];simp only[lin_at hk,rr];refine e1.trans ?_;unfold q9u q56;rw[show((0:Int):Rat)+sumI (valR r g.lines[k] k) 0 r.f.length=sumI (valR r g.lines[k] k) 0 r.f.length from by rw[show((0:Int):Rat)=0 from rfl];grind];cases(List.range' 0 r.f.length).all (okR r g.lines[k] k) <;> rfl
 ·rw[qhb,Ad c1,Ab,Aa,Af,Ac,Cg (by omega)];rfl
end
end
section
def insN:List Txt->Txt->List Txt
 |[],x=>[x]
 |a::l,x=>if a<x then a::insN l x else if a=x then a::l else x::a::l
def whoL(ss:List StpV)(bs:List BlkV):List Txt:=(ss.map λs=>s.who.data.toList)++bs.map λb=>b.who.data.toList
def q26(ss:List StpV)(bs:List BlkV):List Txt:=Lib.compact (sortL (whoL ss bs))
theorem qgw(a:Txt):¬ a<a:=List.lt_irrefl a
theorem ql1{a b:Txt}(h:a<=b)(hn:a≠b):a<b:=DJ λh2=>hn (List.le_antisymm h (Fe.1 h2))
theorem tx_gt_of{a b:Txt}(h:¬ a<b)(hn:a≠b):b<a:=ql1 (Fe.1 h) λe=>hn e.symm
theorem qgx(x y:Txt):∀l:List Txt,y∈insN l x↔y=x\/y∈l
 |[]=>by simp[insN]
 |a::l=>by
  unfold insN;split
  ·rw[Ar,qgx x y l,Ar];constructor
   ·rintro(h | h | h) <;> simp[h]
   ·rintro(h | h | h) <;> simp[h]
  ·split
   ·rename_i _ e;subst e;rw[Ar];constructor
    ·rintro(h | h) <;> simp[h]
    ·rintro(h | h | h) <;> simp[h]
   ·simp
theorem ins_asc(x:Txt):∀ {l:List Txt},l.Pairwise (·<·)->(insN l x).Pairwise (·<·)
 |[],_=>by simp[insN]
 |a::l,h=>by
  have h':=DN.1 h;unfold insN;split
  ·rename_i hlt;refine DN.2 ⟨λy hy=>?_,ins_asc x h'.2⟩;rcases(qgx x y l).1 hy with rfl | hy
   ·exact hlt
   ·exact h'.1 y hy
  ·split
   ·exact h
   ·rename_i h1 h2;have hx:=tx_gt_of h1 h2;refine DN.2 ⟨λy hy=>?_,h⟩;rcases Ar.1 hy with rfl | hy
    ·exact hx
    ·exact Ff hx (h'.1 y hy)
theorem ql2:∀ {S T:List Txt},S.Pairwise (·<·)->T.Pairwise (·<·)->(∀k,k∈S↔k∈T)->S=T
 |[],[],_,_,_=>rfl
 |[],b::t,_,_,h=>absurd ((h b).2 (by simp)) (by simp)
 |a::r,[],_,_,h=>absurd ((h a).1 (by simp)) (by simp)
 |a::r,b::t,hs,ht,h=>by
  have hs':=DN.1 hs;have ht':=DN.1 ht;have e:a=b:=by
   rcases Ar.1 ((h a).1 (by simp))with q | q
   ·exact q
   ·rcases Ar.1 ((h b).2 (by simp))with q2 | q2
    ·exact q2.symm
    ·exact absurd (Ff (ht'.1 a q) (hs'.1 b q2)) (qgw _)
  subst e;have:r=t:=ql2 hs'.2 ht'.2 λk=>by
   have hk:=h k;simp only[Ar]at hk;constructor
   ·intro q;rcases hk.1 (.inr q)with rfl | q2
    ·exact absurd (hs'.1 k q) (qgw _)
    ·exact q2
   ·intro q;rcases hk.2 (.inr q)with rfl | q2
    ·exact absurd (ht'.1 k q) (qgw _)
    ·exact q2
  rw[this]
theorem ql3{l:List Txt}(h:l.Pairwise (·≤·)):∀m,m<=l.length->(Lib.compactUpTo l.toArray m).Pairwise (·<·)/\(∀x,x∈Lib.compactUpTo l.toArray m↔x∈l.take m)/\∀x,x∈Lib.compactUpTo l.toArray m->∀i (hi:i<l.length),m<=i+1->x<=l[i]:=by
 intro m
 induction m with
 |zero =>
  intro _;have e:Lib.compactUpTo l.toArray 0=[]:=rfl;rw[e];exact⟨.nil,λx=>by simp,λx hx=>by simp at hx⟩
 |succ m ih =>
  intro hm;obtain⟨p1,p2,p3⟩:=ih (by omega);have hml:m<l.length:=by omega
  have em:l.toArray[m]! = l[m]:=by rw[Fg _ m (by simpa using hml),Fh]
  have le:∀i j (hi:i<l.length) (hj:j<l.length),i<=j->l[i]<=l[j]:=λi j hi hj hij=>by
   rcases Dn i j with q | q
   ·exact List.pairwise_iff_getElem.1 h i j hi hj q
   ·have:i=j:=by omega
    subst this;exact List.le_refl _
  rw[Lib.compactUpTo_succ,em];by_cases hk:Lib.keeps l.toArray m=true
  ·rw[if_pos hk];refine⟨List.pairwise_append.2 ⟨p1,by simp,λa ha b hb=>?_⟩,λx=>?_,λx hx i hi hmi=>?_⟩
   ·rw[BN]at hb;subst hb;have h0:m≠0:=λe=>by subst e;exact absurd ((p2 a).1 ha) (by simp)
    have hne:l[m]≠l[m-1]:=by
     unfold Lib.keeps at hk;rw[As]at hk;rcases hk with q | q
     ·exact absurd q h0
     ·rw[em,Fg _ (m-1) (by simp;omega),Fh]at q;exact q
    have a1:=p3 a ha (m-1) (by omega) (by omega);have a2:=ql1 (le (m-1) m (by omega) hml (by omega)) λe=>hne e.symm;exact DJ λq=>absurd (List.le_trans (Fe.1 q) a1) (List.not_le.2 a2)
   ·rw[BL,p2,Fi hml,BL]
   ·rcases BL.1 hx with q | q
    ·exact p3 x q i hi (by omega)
    ·rw[BN]at q;subst q;exact le m i hml hi (by omega)
  ·rw[if_neg hk,AM];refine⟨p1,λx=>?_,λx hx i hi hmi=>p3 x hx i hi (by omega)⟩;have h0:m≠0/\l[m]=l[m-1]:=by
    unfold Lib.keeps at hk;rw[As]at hk;have h1:m≠0:=λe=>hk (.inl e);refine⟨h1,DJ λq=>hk (.inr ?_)⟩;rw[em,Fg _ (m-1) (by simp;omega),Fh];exact q
   rw[p2,Fi hml,BL,BN];constructor
   ·exact .inl
   ·rintro(q | rfl)
    ·exact q
    ·rw[h0.2];exact List.mem_take_iff_getElem.2 ⟨m-1,by omega,rfl⟩
theorem ql4(l:List Txt):(sortL l).Pairwise (·≤·):=by
 have tr:∀a b c:List UInt8,decide (a<=b)=true->decide (b<=c)=true->decide (a<=c)=true:=λa b c h1 h2=>by simp only[As]at *;exact List.le_trans h1 h2
 have to:∀a b:List UInt8,(decide (a<=b)||decide (b<=a))=true:=λa b=>by simp only[DX,As];exact List.le_total a b
 exact(List.pairwise_mergeSort tr to l).imp λh=>by simpa using h
theorem names_asc(ss:List StpV)(bs:List BlkV):(q26 ss bs).Pairwise (·<·):=by
 have:=(ql3 (ql4 (whoL ss bs)) _ (Ak _)).1;exact this
theorem qgy(ss:List StpV)(bs:List BlkV)(x:Txt):x∈q26 ss bs↔x∈whoL ss bs:=by
 have:=(ql3 (ql4 (whoL ss bs)) _ (Ak _)).2.1 x;rw[Bj]at this;rw[show x∈q26 ss bs↔x∈sortL (whoL ss bs) from this];exact List.mem_mergeSort
theorem ql5:∀(l O:List Txt),O.Pairwise (·<·)->(l.foldl insN O).Pairwise (·<·)/\∀x,x∈l.foldl insN O↔x∈O\/x∈l
 |[],O,h=>⟨h,λx=>by simp⟩
 |a::l,O,h=>by
  obtain⟨p1,p2⟩:=ql5 l (insN O a) (ins_asc a h);refine⟨p1,λx=>?_⟩;rw[show(a::l).foldl insN O=l.foldl insN (insN O a) from rfl,p2,qgx,Ar];constructor
  ·rintro((h | h) | h) <;> simp[h]
  ·rintro(h | h | h) <;> simp[h]
theorem names_one(ss:List StpV)(bs:List BlkV):(whoL ss bs).foldl insN []=q26 ss bs:=by
 obtain⟨p1,p2⟩:=ql5 (whoL ss bs) [] .nil;exact ql2 p1 (names_asc ss bs) λk=>by rw[p2,qgy];simp
theorem ins_at(x:Txt):∀(O:List Txt) (k:Nat),k<=O.length->(∀j (hj:j<O.length),j<k->O[j]<x)->(∀hk:k<O.length,¬ O[k]<x) ->
  insN O x=if h:k<O.length then(if O[k]=x then O else O.take k++x::O.drop k)else O++[x]
 |[],k,hk,_,_=>by rw[Cg (by simp)];rfl
 |a::l,0,_,_,h2=>by
  have h2':¬ a<x:=h2 (by simp);unfold insN;rw[if_neg h2',BY (by simp)];rfl
 |a::l,k+1,hk,h1,h2=>by
  have ha:a<x:=h1 0 (by simp) (by omega);have ih:=ins_at x l k (by simpa using hk) (λj hj hjk=>h1 (j+1) (by simpa using hj) (by omega)) (λhk2=>h2 (by simpa using hk2));unfold insN;rw[if_pos ha,ih];by_cases h:k<l.length
  ·rw[BY h,BY (by simpa using h)];by_cases e:l[k]=x
   ·rw[if_pos e,if_pos (by simpa using e)]
   ·rw[if_neg e,if_neg (by simpa using e)];rfl
  ·rw[Cg h,Cg (by simpa using h)];rfl
theorem qe4(s:ByteArray):FV.str s=sF s.data.toList:=by
 show FV.str s=FV.str (txt s.data.toList);unfold txt;rw[FN]
theorem qe5(t:Txt):(txt t).toList=t:=by rw[Lib.toList_data,q7s]
section
variable {ss:List StpV} {bs:List BlkV} {n i:Nat}
theorem q5v{a b:Nat}(h:a<=b):Nat.ble a b=true:=Di h
theorem bl_tx(a b:Txt):Op.bytesLess (txt a).toList (txt b).toList=decide (a<b):=by rw[Go.Proofs.bytesLess_eq,qe5,qe5]
theorem eq_tx(a b:Txt):((txt a).toList==(txt b).toList)=decide (a=b):=by
 rw[qe5,qe5,Bm,Bu,As]
theorem put_eq{A O:List Txt}{i k:Nat}(hi:i<A.length)(hk:k<=O.length):((([]:List FV)++List.drop 0 (List.take k (O.map sF)))++[sF A[i]])++List.drop k (List.take (O.map sF).length (O.map sF))=(O.take k++A[i]::O.drop k).map sF:=by
 rw[At,Av,Bj,Bc,AQ,List.map_take,List.map_drop,Ap];rfl
theorem wins_loop{m0:Nat}{A:List Txt}{i:Nat}(hi:i<A.length)(hA:A.length<=1000000){O:List Txt}(hO:O.length<=1000000):∀(d k m:Nat),k+d=O.length->d<m->(∀j (hj:j<O.length),j<k->O[j]<A[i]) ->
  q1m.l15 n [m0] m [.list 1 (A.map sF),.list 1 (O.map sF),iF i,iF k]=q1m.l12 n [] m0 [.list 1 (A.map sF),.list 1 ((insN O A[i]).map sF),iF ((i+1:Nat):Int)]:=by
 intro d
 induction d with
 |zero =>
  intro k m hk hm hlow;obtain⟨m,rfl⟩:=qSx m;obtain rfl:k=O.length:=by omega
  have ei:=ins_at A[i] O O.length (Ak _) hlow (λh=>absurd h (by omega));rw[Cg (by omega)]at ei;have ei2:insN O A[i]=O.take O.length++A[i]::O.drop O.length:=by rw[ei,Bj,CP]
  rw[q1m.qbv,ei2,<- put_eq hi (Ak _)];simp (disch:=(first | omega | (simp only[Bb,BC,DF,Aq,Bf,Aa];omega))) only[Aa,Ad,q9 hi,q1v (Ak O.length),q50 hi,el0,el1,q5v,Ae,q2k,Ab,Ac,qc]
 |succ d ih =>
  intro k m hk hm hlow;obtain⟨m,rfl⟩:=qSx m;have hkl:k<O.length:=by omega
  rw[q1m.qbv];simp only[Aa];rw[Af,Ac,q9 hkl,q9 hi];simp only[Ae,q50 hkl,q50 hi,q2k,bl_tx,eq_tx,Ac];by_cases hlt:O[k]<A[i]
  ·rw[Af hlt,Ac,qc];refine ih (k+1) m (by omega) (by omega) λj hj hjk=>?_;by_cases e:j=k
   ·subst e;exact hlt
   ·exact hlow j hj (by omega)
  ·have ei:=ins_at A[i] O k (by omega) hlow (λ_=>hlt);rw[BY hkl]at ei;rw[Ad hlt,Ab];by_cases e:O[k]=A[i]
   ·rw[if_pos e]at ei;rw[Af e,Ac,ei,qc]
   ·rw[if_neg e]at ei;rw[Ad e,Ab,ei,<- put_eq hi (by omega)];simp (disch:=(first | omega | (simp only[Bb,BC,DF,Aq,Bf,Aa];omega))) only[q1v (CW hkl),el0,el1,q5v,Ae,Ac,qc,Aa]
theorem ins_len(x:Txt):∀l:List Txt,(insN l x).length<=l.length+1
 |[]=>Ak _
 |a::l=>by
  unfold insN;have:=ins_len x l;split
  ·simp only[Aq];omega
  ·split <;> simp only[Aq] <;> omega
theorem qrw{A:List Txt}(hA:A.length<=100000)(hn:200000<=n):∀(d i m:Nat) (O:List Txt),i+d=A.length->d<m->O.length<=i ->
  q1m.l12 n [] m [.list 1 (A.map sF),.list 1 (O.map sF),iF i]=some [.list 1 (((A.drop i).foldl insN O).map sF)]:=by
 intro d
 induction d with
 |zero =>
  intro i m O hi hm hO;obtain⟨m,rfl⟩:=qSx m;obtain rfl:i=A.length:=by omega
  rw[q1m.q3z,Aa,Ad,Ab,CP];rfl
 |succ d ih =>
  intro i m O hi hm hO;obtain⟨m,rfl⟩:=qSx m;have hil:i<A.length:=by omega
  have h:=wins_loop (n:=n) (m0:=m) hil (by omega) (O:=O) (by omega) O.length 0 n (by omega) (by omega) (λj _ h=>absurd h (by omega));rw[q1m.q3z,Aa,Af,Ac];refine h.trans ?_;rw[ih (i+1) m (insN O A[i]) (by omega) (by omega) (by have:=ins_len A[i] O;omega),AY hil];rfl
theorem who_at(h:i<ss.length):at' (ss.map StpV.fv) i 0=some (sF ss[i].who.data.toList):=by rw[q2z h,<- qe4];rfl
theorem whob_at(h:i<bs.length):at' (bs.map BlkV.fv) i 0=some (sF bs[i].who.data.toList):=by rw[q2g h,<- qe4];rfl
theorem qe6{α β:Type}(f:α->β){l:List α}{i:Nat}(h:i<l.length):(l.take i).map f++[f l[i]]=(l.take (i+1)).map f:=by
 rw[Fi h,Bc];rfl
theorem qk1(hs:ss.length<=256)(hb:bs.length<=256)(hn:200000<=n):evF EnD (n+1) 28 [.list 7 (ss.map StpV.fv),.list 8 (bs.map BlkV.fv)]=some [.list 1 ((q26 ss bs).map sF)]:=by
 have l7:∀(d i m:Nat),i+d=bs.length->d<m->q1m.l7 n [] m [.list 8 (bs.map BlkV.fv),.list 1 (((ss.map λs=>s.who.data.toList)++(bs.take i).map λb=>b.who.data.toList).map sF),iF i]=some [.list 1 ((q26 ss bs).map sF)]:=by
  intro d
  induction d with
  |zero =>
   intro i m hi hm;obtain⟨m,rfl⟩:=qSx m;obtain rfl:i=bs.length:=by omega
   have h:=qrw (n:=n) (A:=whoL ss bs) (by unfold whoL;simp only[Bb,Aa];omega) hn (whoL ss bs).length 0 n [] (by omega) (by unfold whoL;simp only[Bb,Aa];omega) (Ak _);rw[Av,names_one]at h;rw[q1m.q2u,Aa,Ad,Ab,Bj];exact h
  |succ d ih =>
   intro i m hi hm;obtain⟨m,rfl⟩:=qSx m;have hil:i<bs.length:=by omega
   rw[q1m.q2u,Aa,Af,Ac,q9 hil];simp only[Ae,whob_at hil,q2k,el1];rw[q5v (by simp only[Bb,Aa,BC,Aq,Bf];omega),Ac,qc,<- ih (i+1) m (by omega) (by omega),<- qe6 (λb:BlkV=>b.who.data.toList) hil];simp only[Bc,Ap,AQ,BE]
 have l3:∀(d i m:Nat),i+d=ss.length->d<m->q1m.l3 n [] m [.list 7 (ss.map StpV.fv),.list 8 (bs.map BlkV.fv),.list 1 (((ss.take i).map λs=>s.who.data.toList).map sF),iF i]=some [.list 1 ((q26 ss bs).map sF)]:=by
  intro d
  induction d with
  |zero =>
   intro i m hi hm;obtain⟨m,rfl⟩:=qSx m;obtain rfl:i=ss.length:=by omega
   have h:=l7 bs.length 0 n (by omega) (by omega);rw[CR,BE,AM]at h;rw[q1m.qm,Aa,Ad,Ab,Bj];exact h
  |succ d ih =>
   intro i m hi hm;obtain⟨m,rfl⟩:=qSx m;have hil:i<ss.length:=by omega
   rw[q1m.qm,Aa,Af,Ac,q9 hil];simp only[Ae,who_at hil,q2k,el1];rw[q5v (by simp only[Aa,BC,Aq,Bf];omega),Ac,qc,<- ih (i+1) m (by omega) (by omega),<- qe6 (λb:StpV=>b.who.data.toList) hil];simp only[Bc,AQ,BE]
 rw[qrx];have h:=l3 ss.length 0 n (by omega) (by omega);rw[CR,BE]at h;exact h
theorem qry{L:List FV}(hs:ss.length<=256)(hb:bs.length<=256)(hn:1000<=n){g:q10}{r:ResV} :
  q1p.l5 (n+1) [] (n+1) (gR g (rL r [.list 7 (ss.map StpV.fv),.list 8 (bs.map BlkV.fv),.list 1 [],.list 7 (ss.map StpV.fv),iF (ss.length:Int),iF 0])) =
   q1p.l19 (n+1) [] (n+1) (gR g (rL r [.list 2 [],.list 1 [],.bool false,.list 7 (ss.map StpV.fv),.list 8 (bs.map BlkV.fv),.list 1 ((q26 ss bs).map sF),iF ((q26 ss bs).length:Int),iF 0])):=by
 have lw:(whoL ss bs).length=ss.length+bs.length:=by unfold whoL;simp only[Bb,Aa]
 have so:∀l:List Txt,(l.map sF).all q6l=true:=λl=>Au.2 λx hx=>by
  obtain⟨t,_,rfl⟩:=BD.1 hx;rfl
 have bo:∀l:List Txt,(l.map sF).map byts=l:=λl=>by
  rw[Cu];exact(CQ λt _=>(q7s t:byts (sF t)=t)).trans (Et _)
 have h81:evF EnD (n+1) 81 [.list 1 ((whoL ss bs).map sF)]=some [.list 1 ((sortL (whoL ss bs)).map sF)]:=by
  have:evF EnD (n+1) 81 [.list 1 ((whoL ss bs).map sF)]=sortExt [.list 1 ((whoL ss bs).map sF)]:=by kernel_rfl
  rw[this];refine(if_pos ⟨so _,by rw[Aa];omega⟩).trans ?_;rw[bo]
 have h86:evF EnD (n+1) 86 [.list 1 ((sortL (whoL ss bs)).map sF)]=some [.list 1 ((q26 ss bs).map sF)]:=by
  have:evF EnD (n+1) 86 [.list 1 ((sortL (whoL ss bs)).map sF)]=qbw [.list 1 ((sortL (whoL ss bs)).map sF)]:=by kernel_rfl
  rw[this];refine(if_pos ⟨so _,by rw[Aa,show(sortL (whoL ss bs)).length=(whoL ss bs).length from(Fj _ _).length_eq];omega⟩).trans ?_;rw[bo];rfl
 have l10:∀(d i m:Nat),i+d=bs.length->d<m->q1p.l10 (n+1) [] m (gR g (rL r [.list 7 (ss.map StpV.fv),.list 8 (bs.map BlkV.fv),.list 1 (((ss.map λs=>s.who.data.toList)++(bs.take i).map λb=>b.who.data.toList).map sF),.list 8 (bs.map BlkV.fv),iF (bs.length:Int),iF i])) =
   q1p.l19 (n+1) [] (n+1) (gR g (rL r [.list 2 [],.list 1 [],.bool false,.list 7 (ss.map StpV.fv),.list 8 (bs.map BlkV.fv),.list 1 ((q26 ss bs).map sF),iF ((q26 ss bs).length:Int),iF 0])):=by
  intro d
  induction d with
  |zero =>
   intro i m hi hm;obtain⟨m,rfl⟩:=qSx m;obtain rfl:i=bs.length:=by omega
   rw[q1p.q4d,Ad,Ab,Bj,show((ss.map λs=>s.who.data.toList)++bs.map λb=>b.who.data.toList)=whoL ss bs from rfl,h81];simp only[rr];rw[h86];simp only[rr];rw[Aa]
  |succ d ih =>
   intro i m hi hm;obtain⟨m,rfl⟩:=qSx m;have hil:i<bs.length:=by omega
   rw[q1p.q4d,Af,Ac,Aa,q9 hil];simp (disch:=omega) only[q2g hil,el1,rr];rw[q5v (by simp only[Bb,Aa,BC,Aq,Bf];omega),Ac,qc,<- ih (i+1) m (by omega) (by omega),<- qe6 (λb:BlkV=>b.who.data.toList) hil,qe4 bs[i].who];simp only[Bc,Ap,AQ,BE]
 have l5:∀(d i m:Nat),i+d=ss.length->d<m->q1p.l5 (n+1) [] m (gR g (rL r [.list 7 (ss.map StpV.fv),.list 8 (bs.map BlkV.fv),.list 1 (((ss.take i).map λs=>s.who.data.toList).map sF),.list 7 (ss.map StpV.fv),iF (ss.length:Int),iF i])) =
   q1p.l19 (n+1) [] (n+1) (gR g (rL r [.list 2 [],.list 1 [],.bool false,.list 7 (ss.map StpV.fv),.list 8 (bs.map BlkV.fv),.list 1 ((q26 ss bs).map sF),iF ((q26 ss bs).length:Int),iF 0])):=by
  intro d
  induction d with
  |zero =>
   intro i m hi hm;obtain⟨m,rfl⟩:=qSx m;obtain rfl:i=ss.length:=by omega
   have h:=l10 bs.length 0 (n+1) (by omega) (by omega);rw[CR,BE,AM]at h;rw[q1p.q1o,Ad,Ab,Bj,Aa];exact h
  |succ d ih =>
   intro i m hi hm;obtain⟨m,rfl⟩:=qSx m;have hil:i<ss.length:=by omega
   rw[q1p.q1o,Af,Ac,Aa,q9 hil];simp (disch:=omega) only[q2z hil,el1,rr];rw[q5v (by simp only[Aa,BC,Aq,Bf];omega),Ac,qc,<- ih (i+1) m (by omega) (by omega),<- qe6 (λb:StpV=>b.who.data.toList) hil,qe4 ss[i].who];simp only[Bc,AQ,BE]
 have h:=l5 ss.length 0 (n+1) (by omega) (by omega);rw[CR,BE]at h;exact h
end
end
section
section
variable {g:q10} {ss:List StpV} {bs:List BlkV} {r:ResV}
theorem qbk(h:chkV g ss bs r=0):q37 g ss bs r/\q1u r=true:=by
 unfold chkV at h;split at h
 ·cases h
 ·rename_i h1;split at h
  ·cases h
  ·rename_i h2;exact⟨qey.1 (by simpa using h1),by simpa using h2⟩
theorem q2t{α:Type}{l:List α}{k:Nat}{z:α}(h:k<l.length):l.getD k z=l[k]:=by rw[AG,Ag h];rfl
theorem ok_pr(hs:q37 g ss bs r)(hr:q1u r=true){h z:Int}(h0:0<=h:=by omega)(h1:h<g.qg:=by omega)(z0:0<=z:=by omega)(z1:z<g.qa:=by omega):pOk r h z=true:=by
 obtain⟨k,rfl⟩:∃k:Nat,h=k:=⟨h.toNat,by omega⟩;obtain⟨j,rfl⟩:∃j:Nat,z=j:=⟨z.toNat,by omega⟩;have hp:=hs.p;have hk:k<r.p.length:=by omega
 have hl:=(hs.lens k (by omega)).2;rw[q2t hk]at hl;have hj:j<r.p[k].length:=by omega
 unfold q1u at hr;simp only[Ai]at hr;have hn:=Au.1 (Au.1 hr.2 _ (Ah hk)) _ (Ah hj);unfold pOk hasP;rw[show((k:Int)).toNat=k from rfl,show((j:Int)).toNat=j from rfl,q2t hk,q2t hj,hn,CH];simp only[Ai,As];omega
theorem q6p(h:q28 g ss bs=true):q36 g=true/\(∀s,s∈ss->q3e g s=true)/\∀b,b∈bs->q33 g b=true:=by
 unfold q28 at h;simp only[Ai]at h;exact⟨h.1.1.1.1.1.1.1,λs hs=>Au.1 h.1.1.1.1.2 s hs,λb hb=>Au.1 h.1.1.1.2 b hb⟩
theorem q5q{n a b:Int}:qp n a b=true↔a<=n/\n<=b:=by
 unfold qp;rw[Ai,As,As]
theorem qbl(hs:q37 g ss bs r)(hr:q1u r=true)(who:ByteArray):okA ss bs r who=true:=by
 obtain⟨o1,o2,o3⟩:=q6p hs.ord;unfold okA;rw[Ai,Au,Au];constructor
 ·intro i hi;have hi':i<ss.length:=by rw[BT]at hi;omega
  have hx:i<r.x.length:=by rw[hs.x];exact hi'
  have hst:=o2 _ (Ah hi');unfold q3e at hst;simp only[Ai,q5q]at hst;have hrr:=hr;unfold q1u at hrr;simp only[Ai]at hrr;have hn:=Au.1 hrr.1.1.1.1 _ (Ah hx);unfold okS;rw[Ag hi'];show(!(decide (ss[i].who=who))||(decide (i<r.x.length)&&isNum (r.x.getD i [])&&pOk r ss[i].hour ss[i].zone))=true;rw[Af hx,q2t hx,hn,ok_pr hs hr];simp
 ·intro i hi;have hi':i<bs.length:=by rw[BT]at hi;omega
  have hx:i<r.accept.length:=by rw[hs.ac];exact hi'
  have hst:=o3 _ (Ah hi');unfold q33 at hst;simp only[Ai,q5q,As]at hst;have hall:((List.range' 0 bs[i].qty.length).all λh=>pOk r h bs[i].zone)=true:=Au.2 λh hh=>by
   have hh':h<bs[i].qty.length:=by rw[BT]at hh;omega
   exact ok_pr hs hr (by omega) (by omega) (by omega) (by omega)
  unfold okB;rw[Ag hi'];show(!(decide (bs[i].who=who))||(decide (i<r.accept.length)&&(!(r.accept.getD i false)||(List.range' 0 bs[i].qty.length).all λh=>pOk r h bs[i].zone)))=true;rw[Af hx,hall];simp
theorem qhi(hs:q37 g ss bs r)(hr:q1u r=true){k:Nat}(hk:k<g.lines.length):q9u r g.lines[k] k=true:=by
 obtain⟨o1,o2,o3⟩:=q6p hs.ord;have hln:q3o g g.lines[k]=true:=by
  unfold q36 at o1;simp only[Ai]at o1;exact Au.1 o1.1.1.2 _ (Ah hk)
 unfold q3o at hln;simp only[Ai,q5q]at hln;have hf:=hs.f;unfold q9u;rw[Au];intro h hh;have hh':h<r.f.length:=by rw[BT]at hh;omega
 have hl:=(hs.lens h (by omega)).1;rw[q2t hh']at hl;have hk':k<r.f[h].length:=by omega
 have hrr:=hr;unfold q1u at hrr;simp only[Ai]at hrr;have hn:=Au.1 (Au.1 hrr.1.2 _ (Ah hh')) _ (Ah hk');unfold okR;rw[q2t hh',Af hk',q2t hk',hn,ok_pr hs hr,ok_pr hs hr];rfl
end
end
end Rf
