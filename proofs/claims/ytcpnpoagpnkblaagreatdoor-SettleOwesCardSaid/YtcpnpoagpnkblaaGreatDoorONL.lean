/- Texts of this work put together, their blanks and comments taken out: Sum20, Sum21, Sum22, Sum23. -/
import Derived.Test.YtcpnpoagpnkblaaGreatDoorONK
set_option linter.unusedVariables false
set_option linter.unusedSimpArgs false
set_option maxHeartbeats 4000000
namespace Rf
open Go
section
theorem qje{f:Nat->Rat}:∀(c i:Nat) (a:Rat),(List.range' i c).foldl (λn k=>n+f k) a=a+sumI f i c
 |0,i,a=>by
  show a=a+0
  grind
 |c+1,i,a=>by
  rw[BK,Be,qje c (i+1)];show a+f i+sumI f (i+1) c=a+(f i+sumI f (i+1) c)
  grind
theorem qpb(q:Rat):2*(((q1x q:Int):Rat)-q)<=1/\-1<=2*(((q1x q:Int):Rat)-q):=by
 have e:=qfo q;obtain⟨r0,r1⟩:=rest_bd q;have p:((0:Int):Rat)<((q.den:Int):Rat):=CZ.2 (den_pos q);have c0:((0:Int):Rat)<=((q1y q:Int):Rat):=Dr.2 r0;have hx:=half_gt q;have hy:=half_lt q;have one:((1:Int):Rat)=1:=rfl;have two:((2:Int):Rat)=2:=rfl;have zero:((0:Int):Rat)=0:=rfl;rw[one,two]at hx hy;rw[zero]at p c0;have f0:(0:Rat)<=q-(q17 q:Rat):=by
  refine DJ λh=>?_;have h:q-(q17 q:Rat)<0:=Cb.1 h;have h2:=(Ej (c:=((q.den:Int):Rat)) p).2 h;rw[e]at h2
  grind
 have f1:q-(q17 q:Rat)<1:=by
  refine(Ej (c:=((q.den:Int):Rat)) p).1 ?_;rw[e];have h3:((q1y q:Int):Rat)<((q.den:Int):Rat):=CZ.2 r1
  grind
 unfold q1x;split
 ·rename_i hc;have hn:¬ q1y q+q1y q<(q.den:Int):=by omega
  have h4:¬ (q-(q17 q:Rat))*2<1:=λh=>hn (hy.1 h);rw[CB,one]
  grind
 ·rename_i hc;have hn:¬ (q.den:Int)<q1y q+q1y q:=λh=>hc (.inl h);have h4:¬ 1<(q-(q17 q:Rat))*2:=λh=>hn (hx.1 h)
  grind
section
variable {g:q10} {ss:List StpV} {bs:List BlkV} {r:ResV}
end
end
section
section
variable {g:q10} {ss:List StpV} {bs:List BlkV} {r:ResV}
theorem prP_at(hs:q37 g ss bs r)(hr:q1u r=true){h z:Int}(h0:0<=h:=by omega)(h1:h<g.qg:=by omega)(z0:0<=z:=by omega)(z1:z<g.qa:=by omega):prP r h z=r.pAt h.toNat z.toNat:=by
 have:=ok_pr hs hr h0 h1 z0 z1;unfold pOk at this;rw[Ai]at this;unfold prP;rw[if_pos this.1]
end
end
section
section
variable {g:q10} {ss:List StpV} {bs:List BlkV} {r:ResV}
end
end
section
section
variable {n:Nat} {q r:Rat} {d e:Nat}
theorem x_cmp(hq:Sz q)(hr:Sz r)(hd:dn d=q.den)(he:dn e=r.den):evF EnD (n+1) 32 [zb (q).num,wl (q).num,.bool false,wL (d),zb (r).num,wl (r).num,.bool false,wL (e)]=some [iF (cmpQ q r)]:=by
 have:evF EnD (n+1) 32 [zb (q).num,wl (q).num,.bool false,wL (d),zb (r).num,wl (r).num,.bool false,wL (e)]=evF EnA (n+1) 32 [zb (q).num,wl (q).num,.bool false,wL (d),zb (r).num,wl (r).num,.bool false,wL (e)]:=by kernel_rfl
 rw[this,q4k hq hr hd he]
end
theorem qeu{f:Nat->Rat}{K:Nat}:∀(c i:Nat),(∀j,i<=j->j<i+c->Bd K (f j))->Bd (1+(K+1)*c) (sumI f i c)
 |0,_,_=>q4w
 |c+1,i,h=>by
  have h1:=h i (by omega) (by omega);have h2:=qeu c (i+1) λj a b=>h j (by omega) (by omega);exact(h1.add h2).mono (by rw[Ce];omega)
section
variable {g:q10} {ss:List StpV} {bs:List BlkV} {r:ResV} {n:Nat}
theorem qdr(h:q28 g ss bs=true):ss.length<=32/\bs.length<=12/\g.qg<=3/\g.lines.length<=3:=by
 have h1:=(q6p h).1;unfold q28 at h;simp only[Ai,As]at h;unfold q36 at h1;simp only[Ai,As,q5q]at h1;omega
theorem amt_bd2(hS:Sq ss bs r)(hs:q37 g ss bs r)(hr:q1u r=true)(who:ByteArray):Bd 200000 (amtV ss bs r who):=by
 obtain⟨l1,l2,l3,l4⟩:=qdr hs.ord;obtain⟨o1,o2,o3⟩:=q6p hs.ord;have ok:=qbl hs hr who;unfold okA at ok;rw[Ai]at ok;have b1:Bd (1+(2048+1)*ss.length) (sumI (valS r who ss) 0 ss.length):=qeu _ _ λi _ hi=>qeg hS (by omega) (Au.1 ok.1 i (by rw[BT];omega));have b2:Bd (1+(4000+1)*bs.length) (sumI (valB r who bs) 0 bs.length):=qeu _ _ λj _ hj=>by
  have hj:j<bs.length:=by omega
  have hst:=o3 _ (Ah hj);unfold q33 at hst;simp only[Ai,q5q,As]at hst;unfold valB;rw[Ag hj];simp only;split
  ·split
   ·exact(qeu (K:=1088) bs[j].qty.length 0 λh _ _=>qef hS (Ah hj) h).mono (by omega)
   ·exact q4w
  ·exact q4w
 exact(b1.add b2).mono (by omega)
end
end
end Rf
