/- Texts of this work put together, their blanks and comments taken out: Pca, Pcb, Pcc, Pcd. -/
import Derived.Test.YtcpnpoagpnkblaaGreatDoorVMW
set_option linter.unusedVariables false
set_option linter.unusedSimpArgs false
section
/- Check, piece by piece: its shape; the numbers that are read; bounds. -/
set_option maxHeartbeats 4000000
namespace Rf
open Go
structure Sm(g:q11)(ss:List StpV)(bs:List BlkV)(r:ResV):Prop where
 ssl:ss.length<=256
 bsl:bs.length<=256
 lsl:g.lines.length<=256
 acl:r.accept.length<=256
 xl:r.x.length<=256
 fl:r.f.length<=256
 pl:r.p.length<=256
 x:∀t,t∈r.x->t.length<=256
 f:∀l,l∈r.f->Few l
 p:∀l,l∈r.p->Few l
 w:r.q1g.length<=256
 u:r.upper.length<=256
 q:∀b,b∈bs->b.qty.length<=256
abbrev Tg(g:q11)(ss:List StpV)(bs:List BlkV)(r:ResV)(x f p:List FV)(a1 a2:FV)(a3 a4:FV)(b1 b2 b3 b4:FV)(rest:List FV):List FV :=
 iF g.qm::iF g.qk::.list 3 (g.lines.map q1a.fv)::iF g.low::iF g.high::.list 7 (ss.map StpV.fv)::.list 8 (bs.map BlkV.fv)::.list 1 (r.accept.map .bool)::.list 1 (r.x.map sF)::.list 1 (r.f.map rowF)::.list 1 (r.p.map rowF)::sF r.q1g::sF r.upper::.bool r.q8c::iF r.nodes ::
  .list 4 x::.list 1 f::.list 1 p::a1::a2::a3::a4::b1::b2::b3::b4::rest
abbrev T0(g:q11)(ss:List StpV)(bs:List BlkV)(r:ResV)(rest:List FV):List FV:=Tg g ss bs r [] [] [] (.list 1 []) (.bool false) (.list 1 []) (.bool false) (.list 1 []) (.bool false) (.list 1 []) (.bool false) rest
noncomputable def numR(l:List Txt):FV:=.list 4 (l.map λt=>ratF (rd t))
noncomputable abbrev T1 (g:q11) (ss:List StpV) (bs:List BlkV) (r:ResV) (rest:List FV):List FV :=
 Tg g ss bs r (r.x.map λt=>ratF (rd t)) (r.f.map numR) (r.p.map numR) (zl (rd r.q1g).num) (zb (rd r.q1g).num) (nL (rd r.q1g).den) (.bool false) (zl (rd r.upper).num) (zb (rd r.upper).num) (nL (rd r.upper).den) (.bool false) rest
theorem nne(a b:Nat):((a:Int) !=(b:Int))=!decide (a=b):=by
 by_cases h:a=b
 ·rw[decide_eq_true h,h];simp
 ·rw[decide_eq_false h];simp;omega
theorem ine(a b:Int):(a !=b)=!decide (a=b):=by simp[bne,BEq.beq]
theorem sum_q{bs:List BlkV}:∀ {bs:List BlkV},(∀b,b∈bs->b.qty.length<=256)->(bs.map λb=>b.qty.length).sum<=256*bs.length
 |[],_=>by simp
 |b::bs,h=>by
  have h1:=sum_q (bs:=bs) (λc hc=>h c (List.mem_cons_of_mem _ hc));have h2:=h b List.mem_cons_self;simp only[List.map_cons,List.sum_cons,List.length_cons];omega
section
variable {g:q11} {ss:List StpV} {bs:List BlkV} {r:ResV}
theorem Sm.sum(h:Sm g ss bs r):(bs.map λb=>b.qty.length).sum<=65536:=by
 have:=sum_q (bs:=bs) h.q;have:=h.bsl;omega
theorem orders_sm{n:Nat}(h:Sm g ss bs r)(hn:70000<=n):evF EnA n 18 (gL g++[.list 7 (ss.map StpV.fv),.list 8 (bs.map BlkV.fv)])=some [.bool (q2h g ss bs)]:=by
 have:=h.sum;have:=h.ssl;have:=h.bsl;have:=h.lsl;exact qkp (by omega) (by omega) (by omega) (λb hb=>by have:=h.q b hb;omega) (by omega)
theorem q6d(h:q3x g=true):1<=g.qm/\g.qm<=3/\1<=g.qk/\g.qk<=3/\g.lines.length<=3/\(∀l,l∈g.lines->q3q g l=true)/\-100000<=g.low/\g.low<=g.high/\g.high<=100000:=by
 unfold q3x at h;simp only[Bool.and_eq_true,q5i,decide_eq_true_eq,List.all_eq_true]at h;obtain⟨⟨⟨⟨⟨h1,h2⟩,h3⟩,h4⟩,h5⟩,h6⟩:=h;exact⟨h1.1,h1.2,h2.1,h2.2,h3,h4,h5.1,h5.2,h6⟩
theorem q6e(h:q2h g ss bs=true):q3x g=true:=by
 unfold q2h at h;simp only[Bool.and_eq_true]at h;exact h.1.1.1.1.1.1.1
theorem qao{l:q1a}(h:q3q g l=true):0<=l.src/\l.src<g.qm/\0<=l.dst/\l.dst<g.qm/\l.src≠l.dst/\0<=l.cap/\l.cap<=1000:=by
 unfold q3q at h;simp only[Bool.and_eq_true,q5i,bne_iff_ne]at h;obtain⟨⟨⟨h1,h2⟩,h3⟩,h4⟩:=h;exact⟨h1.1,by omega,h2.1,by omega,h3,h4.1,h4.2⟩
def shpAt(g:q11)(r:ResV)(h:Nat):Bool:=decide ((r.f.getD h []).length=g.lines.length)&&decide (((r.p.getD h []).length:Int)=g.qm)
theorem getD_at{α:Type}(L:List α)(d:α){i:Nat}(h:i<L.length):L.getD i d=L[i]:=by
 rw[List.getD_eq_getElem?_getD,List.getElem?_eq_getElem h];rfl
theorem qkq{n:Nat}(h:Sm g ss bs r)(hn:80000<=n):evF EnA n 44 (T0 g ss bs r [])=some (T0 g ss bs r [.bool (q6f g ss bs r)]):=by
 obtain⟨n,rfl⟩:=qSx n (by omega);have ho:=orders_sm h (n:=n) (by omega);unfold gL at ho;simp only[List.cons_append,List.nil_append]at ho;rw[qkr,ho,List.length_map,List.length_map,List.length_map,List.length_map,List.length_map,List.length_map];simp (disch:=omega) only[Option.bind_some,List.getElem?_cons_zero,qa];rw[show q6f g ss bs r=(q2h g ss bs&&decide (r.accept.length=bs.length)&&decide (r.x.length=ss.length)&&decide ((r.f.length:Int)=g.qk)&&decide ((r.p.length:Int)=g.qk)&&decide (0<=r.nodes)&&(List.range' 0 g.qk.toNat).all (shpAt g r)) from rfl];cases hov:q2h g ss bs with
 |false=>simp
 |true =>
  obtain⟨z1,z2,z3,z4,_⟩:=q6d (q6e hov);rw[nne,nne,ine,ine,show decide (0<=r.nodes)=!decide (r.nodes<0) from dle _ _];by_cases e1:r.accept.length=bs.length
  ·by_cases e2:r.x.length=ss.length
   ·by_cases e3:(r.f.length:Int)=g.qk
    ·by_cases e4:(r.p.length:Int)=g.qk
     ·have hl:=q35 (F:=λm i=>q4l.l4 n [] m (T0 g ss bs r [iF g.qk,iF (i:Int)])) (len:=g.qk.toNat) (P:=shpAt g r) (fin:=some (T0 g ss bs r [.bool true])) (stop:=some (T0 g ss bs r [.bool false])) (λm i hi=>by
       show q4l.l4 n [] (m+1) _=_;have i1:i<r.f.length:=by omega
       have i2:i<r.p.length:=by omega
       rw[q4l.q1r,decide_eq_true (by omega),cond_true,List.length_map,List.length_map,List.length_map,qc i1,qc i2];simp (disch:=omega) only[q3a i1,q3a i2,Option.bind_some,q9];rw[List.length_map,List.length_map,nne,ine,qi (by omega)];unfold shpAt;rw[getD_at _ _ i1,getD_at _ _ i2];cases decide (r.f[i].length=g.lines.length) <;> cases decide (((r.p[i].length:Nat):Int)=g.qm) <;> rfl) (λm=>by
       show q4l.l4 n [] (m+1) _=_
       rw[q4l.q1r,decide_eq_false (by omega),cond_false]) g.qk.toNat 0 n (by omega) (by omega)
      have hl:q4l.l4 n [] n (T0 g ss bs r [iF g.qk,iF 0])=_:=hl;rw[hl,decide_eq_true e1,decide_eq_true e2,decide_eq_true e3,decide_eq_true e4];cases decide (r.nodes<0) <;> cases(List.range' 0 g.qk.toNat).all (shpAt g r) <;> rfl
     ·rw[decide_eq_false e4];simp
    ·rw[decide_eq_false e3];simp
   ·rw[decide_eq_false e2];simp
  ·rw[decide_eq_false e1];simp
structure q3y(g:q11)(ss:List StpV)(bs:List BlkV)(r:ResV):Prop where
 ord:q2h g ss bs=true
 ac:r.accept.length=bs.length
 x:r.x.length=ss.length
 f:(r.f.length:Int)=g.qk
 p:(r.p.length:Int)=g.qk
 nodes:0<=r.nodes
 lens:∀h,h<g.qk.toNat->(r.f.getD h []).length=g.lines.length/\((r.p.getD h []).length:Int)=g.qm
theorem qcv:q6f g ss bs r=true↔q3y g ss bs r:=by
 unfold q6f;simp only[Bool.and_eq_true,decide_eq_true_eq,q4m];constructor
 ·rintro⟨⟨⟨⟨⟨⟨h1,h2⟩,h3⟩,h4⟩,h5⟩,h6⟩,h7⟩;exact⟨h1,h2,h3,h4,h5,h6,h7⟩
 ·intro h;exact⟨⟨⟨⟨⟨⟨h.ord,h.ac⟩,h.x⟩,h.f⟩,h.p⟩,h.nodes⟩,h.lens⟩
noncomputable def nmL(l:List Txt):List FV:=if l.all isNum=true then l.map λt=>ratF (rd t)else []
theorem qap{n:Nat}{l:List Txt}{ok:Bool}(hl:Few l)(hn:300<=n):evF EnA n 104 [.list 1 (l.map sF),.bool ok]=some [.bool (ok&&l.all isNum),.list 4 (nmL l)]:=by
 obtain⟨n,rfl⟩:=qSx n (by omega);have:=hl.1;rw[qks,nums_run hl.2 (by omega) (by omega)];unfold nmL;cases hall:l.all isNum with
 |true =>
  rw[if_pos rfl,if_pos rfl];simp (disch:=omega) only[Option.bind_some,List.getElem?_cons_zero,List.getElem?_cons_succ,q9,qa];cases ok <;> rfl
 |false =>
  rw[if_neg (by simp),if_neg (by simp)];simp (disch:=omega) only[Option.bind_some,List.getElem?_cons_zero,List.getElem?_cons_succ,q9,qa];cases ok <;> rfl
noncomputable def okH(r:ResV)(h:Nat):Bool:=(List.range' 0 h).all λi=>(r.f.getD i []).all isNum&&(r.p.getD i []).all isNum
theorem okH_succ{h:Nat}:okH r (h+1)=(okH r h&&((r.f.getD h []).all isNum&&(r.p.getD h []).all isNum)):=by
 unfold okH;rw[List.range'_concat,List.all_append];simp
theorem qfv{α β:Type}(f:α->β)(L:List α){i:Nat}(h:i<L.length):(L.take i).map f++[f L[i]]=(L.take (i+1)).map f:=by
 rw[List.take_add_one,List.getElem?_eq_getElem h,List.map_append];rfl
theorem okH_all{H:Nat}(hf:r.f.length=H)(hp:r.p.length=H):okH r H=(r.f.all (·.all isNum)&&r.p.all (·.all isNum)):=by
 unfold okH;rw[all_and,<- q77 r.f (·.all isNum) (P:=λi=>(r.f.getD i []).all isNum) (λi hi=>by rw[getD_at _ _ hi]),<- q77 r.p (·.all isNum) (P:=λi=>(r.p.getD i []).all isNum) (λi hi=>by rw[getD_at _ _ hi]),hf,hp]
theorem qfw{n:Nat}(h:Sm g ss bs r)(hs:q3y g ss bs r)(hn:80000<=n) :
  (q20 r=true->evF EnA n 45 (T0 g ss bs r [])=some (T1 g ss bs r [.bool true])) /\
  (q20 r=false->evF EnA n 45 (T0 g ss bs r [])=some (Tg g ss bs r (nmL r.x) (r.f.map λl=>.list 4 (nmL l)) (r.p.map λl=>.list 4 (nmL l)) (.list 1 []) (.bool false) (.list 1 []) (.bool false) (.list 1 []) (.bool false) (.list 1 []) (.bool false) [.bool false])):=by
 obtain⟨n,rfl⟩:=qSx n (by omega);obtain⟨z1,z2,z3,z4,_⟩:=q6d (q6e hs.ord);have lf:=hs.f;have lp:=hs.p;have hxs:=h.xl;have few:Few r.x:=⟨h.xl,h.x⟩
 have fewo:Few [r.q1g,r.upper]:=⟨by simp,λt ht=>by
  rcases List.mem_cons.1 ht with rfl | ht
  ·exact h.w
  ·rw[List.mem_singleton.1 ht];exact h.u⟩
 let ow:=r.x.all isNum&&okH r g.qk.toNat&&[r.q1g,r.upper].all isNum
 have key:∀(d i m:Nat),i+d=g.qk.toNat->d<m->q78.l5 n [] m (Tg g ss bs r (nmL r.x) ((r.f.take i).map λl=>.list 4 (nmL l)) ((r.p.take i).map λl=>.list 4 (nmL l)) (.list 1 []) (.bool false) (.list 1 []) (.bool false) (.list 1 []) (.bool false) (.list 1 []) (.bool false) [.bool (r.x.all isNum&&okH r i),iF g.qk,iF (i:Int)]) =
   bif ow then some (Tg g ss bs r (nmL r.x) (r.f.map λl=>.list 4 (nmL l)) (r.p.map λl=>.list 4 (nmL l)) (zl (rd r.q1g).num) (zb (rd r.q1g).num) (nL (rd r.q1g).den) (.bool false) (zl (rd r.upper).num) (zb (rd r.upper).num) (nL (rd r.upper).den) (.bool false) [.bool true])
   else some (Tg g ss bs r (nmL r.x) (r.f.map λl=>.list 4 (nmL l)) (r.p.map λl=>.list 4 (nmL l)) (.list 1 []) (.bool false) (.list 1 []) (.bool false) (.list 1 []) (.bool false) (.list 1 []) (.bool false) [.bool false]):=by
  intro d
  induction d with
  |zero =>
   intro i m hi hm;obtain⟨m,rfl⟩:=qSx m (by omega);obtain rfl:i=g.qk.toNat:=by omega
   have ho:=qap (n:=n) (l:=[r.q1g,r.upper]) (ok:=r.x.all isNum&&okH r g.qk.toNat) fewo (by omega);rw[q78.q1x,decide_eq_false (by omega),cond_false,show qd 2 (.str { data:=#[] }) [(0,sF r.q1g),(1,sF r.upper)]=[r.q1g,r.upper].map sF from rfl,ho];simp (disch:=omega) only[Option.bind_some,List.getElem?_cons_zero,List.getElem?_cons_succ,q9,qa];rw[show(r.x.all isNum&&okH r g.qk.toNat&&[r.q1g,r.upper].all isNum)=ow from rfl,show g.qk.toNat=r.f.length by omega,List.take_length,show r.f.length=r.p.length by omega,List.take_length];cases how:ow with
   |false=>rfl
   |true =>
    have hal:[r.q1g,r.upper].all isNum=true:=by
     have:(r.x.all isNum&&okH r g.qk.toNat&&[r.q1g,r.upper].all isNum)=true:=how;rw[Bool.and_eq_true]at this;exact this.2
    have e:nmL [r.q1g,r.upper]=[ratF (rd r.q1g),ratF (rd r.upper)]:=by unfold nmL;rw[if_pos hal];rfl
    rw[cond_true,e];rfl
  |succ d ih =>
   intro i m hi hm;obtain⟨m,rfl⟩:=qSx m (by omega);have i1:i<r.f.length:=by omega
   have i2:i<r.p.length:=by omega
   have t1:=qap (n:=n) (l:=r.f[i]) (ok:=r.x.all isNum&&okH r i) (h.f _ (List.getElem_mem i1)) (by omega);have t2:=qap (n:=n) (l:=r.p[i]) (ok:=r.x.all isNum&&okH r i&&r.f[i].all isNum) (h.p _ (List.getElem_mem i2)) (by omega);have x1:ix (i:Int) (r.f.map rowF).length=some i:=qc (by rw[List.length_map];exact i1);have x2:ix (i:Int) (r.p.map rowF).length=some i:=qc (by rw[List.length_map];exact i2);rw[q78.q1x,decide_eq_true (by omega),cond_true,x1];simp (disch:=omega) only[q3a i1,Option.bind_some,q9];rw[t1];simp (disch:=omega) only[x2,q3a i2,Option.bind_some,List.getElem?_cons_zero,List.getElem?_cons_succ,q9,qa];rw[t2];simp (disch:=omega) only[Option.bind_some,List.getElem?_cons_zero,List.getElem?_cons_succ,q9,qa]
   rw[show Nat.ble (((r.f.take i).map λl=>FV.list 4 (nmL l)).length+(qd 1 (.list 4 []) [(0,.list 4 (nmL r.f[i]))]).length) 5864062014805=true by
     apply Nat.ble_eq_true_of_le;rw[List.length_map,List.length_take];show _+1<=_;omega,cond_true,show Nat.ble (((r.p.take i).map λl=>FV.list 4 (nmL l)).length+(qd 1 (.list 4 []) [(0,.list 4 (nmL r.p[i]))]).length) 5864062014805=true by
     apply Nat.ble_eq_true_of_le;rw[List.length_map,List.length_take];show _+1<=_
     omega,cond_true,qi (by omega)]
   have e1:((r.f.take i).map λl=>FV.list 4 (nmL l))++qd 1 (.list 4 []) [(0,.list 4 (nmL r.f[i]))]=(r.f.take (i+1)).map λl=>FV.list 4 (nmL l):=qfv (λl=>FV.list 4 (nmL l)) r.f i1;have e2:((r.p.take i).map λl=>FV.list 4 (nmL l))++qd 1 (.list 4 []) [(0,.list 4 (nmL r.p[i]))]=(r.p.take (i+1)).map λl=>FV.list 4 (nmL l):=qfv (λl=>FV.list 4 (nmL l)) r.p i2;have e3:(r.x.all isNum&&okH r i&&r.f[i].all isNum&&r.p[i].all isNum)=(r.x.all isNum&&okH r (i+1)):=by
    rw[okH_succ,getD_at _ _ i1,getD_at _ _ i2];simp only[Bool.and_assoc]
   rw[e1,e2,e3];exact ih (i+1) m (by omega) (by omega)
 have k0:=key g.qk.toNat 0 n (by omega) (by omega);have t0:=qap (n:=n) (l:=r.x) (ok:=true) few (by omega)
 have hrun:=Eq.trans (a:=evF EnA (n+1) 45 (T0 g ss bs r [])) (by
  rw[qkt,t0];simp (disch:=omega) only[Option.bind_some,List.getElem?_cons_zero,List.getElem?_cons_succ,q9,qa];rw[Bool.true_and,show okH r 0=true from rfl,Bool.and_true]
  rfl) k0
 have how:q20 r=ow:=by
  show _=(r.x.all isNum&&okH r g.qk.toNat&&[r.q1g,r.upper].all isNum);rw[okH_all (by omega) (by omega)];unfold q20;simp only[List.all_cons,List.all_nil,Bool.and_true];cases r.x.all isNum <;> cases isNum r.q1g <;> cases isNum r.upper <;> cases r.f.all (·.all isNum) <;> cases r.p.all (·.all isNum) <;> rfl
 rw[hrun,<- how];constructor
 ·intro hr;rw[hr,cond_true];unfold q20 at hr;simp only[Bool.and_eq_true]at hr;obtain⟨⟨⟨⟨h1,_⟩,_⟩,h4⟩,h5⟩:=hr;have ex:nmL r.x=r.x.map λt=>ratF (rd t):=by unfold nmL;rw[if_pos h1]
  have ef:(r.f.map λl=>FV.list 4 (nmL l))=r.f.map numR:=List.map_congr_left λl hl=>by
   unfold nmL numR;rw[if_pos (List.all_eq_true.1 h4 l hl)]
  have ep:(r.p.map λl=>FV.list 4 (nmL l))=r.p.map numR:=List.map_congr_left λl hl=>by
   unfold nmL numR;rw[if_pos (List.all_eq_true.1 h5 l hl)]
  rw[ex,ef,ep]
 ·intro hr;rw[hr,cond_false]
end
end Rf
end
section
/- Check, piece by piece: bounds of what is taken, what flows, and prices. -/
set_option maxHeartbeats 4000000
namespace Rf
open Go
theorem Sz.int{z:Int}(h1:-1000000000000<=z)(h2:z<=1000000000000):Sz (z:Rat):=by
 refine Sz.of (k:=40) (Bd.int ?_ (by omega)) (by omega);have:(2:Nat)^40=1099511627776:=rfl;omega
theorem q34{t:Txt}(h:t.length<=256):Sz (rd t):=(q42 h).mono (by omega)
theorem qis{n:Nat}{q:Rat}{lo hi:Int}(hq:Sz q)(h1:-1000000<=lo/\lo<=1000000)(h2:-1000000<=hi/\hi<=1000000):evF EnA (n+2) 106 [zl (q).num,zb (q).num,nL (q).den,.bool false,iF lo,iF hi]=some [.bool (inR q lo hi)]:=by
 rw[qn9,a_of (by omega) (by omega)];simp (disch:=omega) only[Option.bind_some,List.getElem?_cons_zero,List.getElem?_cons_succ,q9,qa];rw[q4u hq (Sz.int (by omega) (by omega)) (qj q) (qj _)];simp (disch:=omega) only[Option.bind_some,List.getElem?_cons_zero,qb];rw[cmpQ_ge,a_of (by omega) (by omega)];simp (disch:=omega) only[Option.bind_some,List.getElem?_cons_zero,List.getElem?_cons_succ,q9,qa];rw[q4u hq (Sz.int (by omega) (by omega)) (qj q) (qj _)];simp (disch:=omega) only[Option.bind_some,List.getElem?_cons_zero,qb];rw[cmpQ_le];unfold inR;cases decide (((lo:Int):Rat)<=q) <;> rfl
theorem qit{α:Type}(l:List α)(p:α->Bool)(d:α):l.all p=(List.range' 0 l.length).all λi=>p (l.getD i d) :=
 (q77 l p (λi hi=>by rw[getD_at _ _ hi])).symm
section
variable {g:q11} {ss:List StpV} {bs:List BlkV} {r:ResV}
noncomputable def q99(g:q11)(l:List Txt):Bool:=l.all isNum&&decide (l.length=g.lines.length)&&(List.range' 0 l.length).all λi=>inR (rd (l.getD i [])) (-(g.lines.getD i default).cap) (g.lines.getD i default).cap
theorem q5f{l:List Txt}{i:Nat}(h:i<l.length)(c:Nat):at' (l.map λt=>ratF (rd t)) i c=[zl (rd l[i]).num,zb (rd l[i]).num,nL (rd l[i]).den,.bool false][c]?:=by rw[q21,List.getElem?_eq_getElem h];rfl
theorem qpd{n:Nat}{l:List Txt}(hl:Few l)(hg:∀x,x∈g.lines->0<=x.cap/\x.cap<=1000)(hn:1000<=n):evF EnA n 108 (gL g++[.list 1 (l.map sF)])=some [.bool (q99 g l)]:=by
 obtain⟨n,rfl⟩:∃k,n=k+2:=⟨n-2,by omega⟩;have:=hl.1;unfold gL;simp only[List.cons_append,List.nil_append];rw[qnb,gnums_run hl.2 (by omega) (by omega),List.length_map,List.length_map];unfold q99;cases hall:l.all isNum with
 |false=>rfl
 |true =>
  rw[if_pos rfl];simp (disch:=omega) only[Option.bind_some,List.getElem?_cons_zero,List.getElem?_cons_succ,q9,qa];rw[Bool.not_true,cond_false,nne];by_cases hlen:l.length=g.lines.length
  ·rw[decide_eq_true hlen,Bool.not_true,cond_false,List.length_map]
   have h:=q35 (F:=λm i=>q56.l5 (n+1) [] m [iF g.qm,iF g.qk,.list 3 (g.lines.map q1a.fv),iF g.low,iF g.high,.list 4 (l.map λt=>ratF (rd t)),iF (l.length:Int),iF (i:Int)]) (len:=l.length) (P:=λi=>inR (rd (l.getD i [])) (-(g.lines.getD i default).cap) (g.lines.getD i default).cap) (fin:=some [.bool true]) (stop:=some [.bool false]) (λm i hi=>by
    show q56.l5 (n+1) [] (m+1) _=_;have hi2:i<g.lines.length:=by omega
    obtain⟨c1,c2⟩:=hg _ (List.getElem_mem hi2);have hq:=q34 (hl.2 _ (List.getElem_mem hi));have hc:=Sz.int (z:=g.lines[i].cap) (by omega) (by omega);have hc2:=Sz.int (z:=-g.lines[i].cap) (by omega) (by omega);have e0:-((g.lines[i].cap:Int):Rat)=((-g.lines[i].cap:Int):Rat):=(Rat.intCast_neg _).symm;rw[q56.q1x,decide_eq_true (by omega),cond_true,List.length_map,List.length_map,qc hi,qc hi2];simp (disch:=omega) only[q5f hi,qca hi2,Option.bind_some,List.getElem?_cons_zero,List.getElem?_cons_succ,q9,qb,qa];rw[a_of (by omega) (by omega)];simp (disch:=omega) only[Option.bind_some,List.getElem?_cons_zero,List.getElem?_cons_succ,q9,qa];rw[q4u hq hc (qj _) (qj _)];simp (disch:=omega) only[Option.bind_some,List.getElem?_cons_zero,qb];rw[q9p,a_neg hc (qj _)];simp (disch:=omega) only[Option.bind_some,List.getElem?_cons_zero,List.getElem?_cons_succ,q9,qa];rw[e0,q4u hq hc2 (qj _) (qj _)];simp (disch:=omega) only[Option.bind_some,List.getElem?_cons_zero,qb];rw[q8i,qi (by omega),getD_at _ _ hi,getD_at _ _ hi2];unfold inR;by_cases hA:((g.lines[i].cap:Int):Rat)<rd l[i]
    ·rw[decide_eq_true hA,decide_eq_false (p:=rd l[i]<=_) (Rat.not_le.2 hA),Bool.and_false];rfl
    ·rw[decide_eq_false hA,decide_eq_true (p:=rd l[i]<=_) (Rat.not_lt.1 hA),Bool.and_true];by_cases hB:rd l[i]<((-g.lines[i].cap:Int):Rat)
     ·rw[decide_eq_true hB,decide_eq_false (Rat.not_le.2 hB)];rfl
     ·rw[decide_eq_false hB,decide_eq_true (Rat.not_lt.1 hB)];rfl) (λm=>by
    show q56.l5 (n+1) [] (m+1) _=_
    rw[q56.q1x,decide_eq_false (by omega),cond_false]) l.length 0 (n+1) (by omega) (by omega)
   have h:q56.l5 (n+1) [] (n+1) [iF g.qm,iF g.qk,.list 3 (g.lines.map q1a.fv),iF g.low,iF g.high,.list 4 (l.map λt=>ratF (rd t)),iF (l.length:Int),iF 0]=_:=h;rw[h];simp only[Bool.true_and];cases(List.range' 0 l.length).all λi=>inR (rd (l.getD i [])) (-(g.lines.getD i default).cap) (g.lines.getD i default).cap <;> rfl
  ·rw[decide_eq_false hlen];rfl
noncomputable def frT(g:q11)(ss:List StpV)(bs:List BlkV)(r:ResV):FV:=.agg (T1 g ss bs r [])
theorem qes(s:Nat)(x:FV):asRef s (some (.ref s x))=some [x]:=by simp[asRef]
theorem podd_run{n:Nat}{q:Rat}(hq:Sz q)(hg:-100000<=g.low/\g.low<=g.high/\g.high<=100000):evF EnA (n+3) 107 [zl (q).num,zb (q).num,nL (q).den,.bool false,.ref 26 (frT g ss bs r)]=some [.ref 26 (frT g ss bs r),.bool (!inR q g.low g.high)]:=by
 rw[qna,at_one,at_one];unfold frT;simp only[FV.cells,List.getElem?_cons_succ,List.getElem?_cons_zero,qb,Option.bind_some];rw[qis hq (by omega) (by omega)];rfl
theorem pidx_run{n:Nat}{l:List Txt}(hl:Few l)(hg:-100000<=g.low/\g.low<=g.high/\g.high<=100000)(hn:300<=n):evF EnA n 100109 [.list 4 (l.map λt=>ratF (rd t)),.ref 26 (frT g ss bs r)]=some [.ref 26 (frT g ss bs r),.bool (!l.all λt=>inR (rd t) g.low g.high)]:=by
 obtain⟨n,rfl⟩:∃k,n=k+5:=⟨n-5,by omega⟩;have:=hl.1
 have h:=qac l (λt=>!inR (rd t) g.low g.high) (pre:=[.ref 26 (frT g ss bs r)]) (F:=λm i=>q57.l2 (n+3) [] m [.ref 26 (frT g ss bs r),.list 4 (l.map λt=>ratF (rd t)),iF (l.length:Int),iF (i:Int)]) (λm i hi=>by
  show q57.l2 (n+3) [] (m+1) _=_;rw[q57.qu,decide_eq_true (by omega),cond_true,List.length_map,qc hi];simp (disch:=omega) only[q5f hi,Option.bind_some,List.getElem?_cons_zero,List.getElem?_cons_succ,q9,qa];rw[podd_run (q34 (hl.2 _ (List.getElem_mem hi))) hg,qi (by omega)];simp only[Option.bind_some,List.getElem?_cons_zero,List.getElem?_cons_succ,qes,qa];rfl) (λm=>by
  show q57.l2 (n+3) [] (m+1) _=_;rw[q57.qu,decide_eq_false (by omega),cond_false]
  rfl) l.length 0 (n+3) (by omega) (by omega) (λj _ hj=>by omega)
 rw[qng,qnh,List.length_map];have h:q57.l2 (n+3) [] (n+3) [.ref 26 (frT g ss bs r),.list 4 (l.map λt=>ratF (rd t)),iF (l.length:Int),iF 0]=_:=h;rw[h];simp only[List.cons_append,List.nil_append,Option.bind_some,List.getElem?_cons_zero,List.getElem?_cons_succ,qes,qb];rw[qcb,List.any_eq_not_all_not];simp only[Bool.not_not];rfl
theorem qm5{n:Nat}(h:Sm g ss bs r)(hs:q3y g ss bs r)(hr:q20 r=true)(hn:2000<=n):evF EnA n 100046 [.ref 26 (frT g ss bs r)]=some [.bool (q6q g ss r)]:=by
 obtain⟨n,rfl⟩:∃k,n=k+4:=⟨n-4,by omega⟩;obtain⟨z1,z2,z3,z4,z5,z6,z7,z8,z9⟩:=q6d (q6e hs.ord);have lf:=hs.f;have lp:=hs.p;have lx:=hs.x;have:=h.ssl;have hst:∀s,s∈ss->q4f g s=true:=by
  have:=hs.ord;unfold q2h at this;simp only[Bool.and_eq_true,List.all_eq_true]at this;exact this.1.1.1.1.2
 have e9:=q35 (F:=λm i=>q27.l9 (n+3) [] m [.ref 26 (frT g ss bs r),iF g.qk,iF (i:Int)]) (len:=g.qk.toNat) (P:=λi=>q99 g (r.f.getD i [])&&(r.p.getD i []).all λt=>inR (rd t) g.low g.high) (fin:=some [.bool true]) (stop:=some [.bool false]) (λm i hi=>by
  show q27.l9 (n+3) [] (m+1) _=_;have i1:i<r.f.length:=by omega
  have i2:i<r.p.length:=by omega
  have hw:=qpd (g:=g) (n:=n+3) (h.f _ (List.getElem_mem i1)) (λx hx=>by have:=qao (z6 x hx);omega) (by omega);unfold gL at hw;simp only[List.cons_append,List.nil_append]at hw;rw[q27.q3h,decide_eq_true (by omega),cond_true];simp only[at_one];rw[show(frT g ss bs r).cells=T1 g ss bs r [] from rfl];simp only[List.getElem?_cons_succ,List.getElem?_cons_zero,qb,q9,Option.bind_some,List.length_map];rw[qc i1,Option.bind_some,q3a i1,q9,Option.bind_some,hw];simp (disch:=omega) only[Option.bind_some,List.getElem?_cons_zero,qa];rw[qc i2,Option.bind_some,show at' (r.p.map numR) i 0=some (.list 4 (r.p[i].map λt=>ratF (rd t))) by rw[q21,List.getElem?_eq_getElem i2];rfl,q9,Option.bind_some,pidx_run (h.p _ (List.getElem_mem i2)) ⟨z7,z8,z9⟩ (by omega),qi (by omega),getD_at _ _ i1,getD_at _ _ i2];simp only[Option.bind_some,List.getElem?_cons_zero,List.getElem?_cons_succ,qes,qa];rw[show hd1 [frT g ss bs r]=frT g ss bs r from rfl];cases q99 g r.f[i] <;> cases(r.p[i].all λt=>inR (rd t) g.low g.high) <;> simp only[Bool.not_true,Bool.not_false,cond_true,cond_false,Bool.and_true,Bool.and_false]) (λm=>by
  show q27.l9 (n+3) [] (m+1) _=_
  rw[q27.q3h,decide_eq_false (by omega),cond_false]) g.qk.toNat 0 (n+3) (by omega) (by omega)
 have e9:q27.l9 (n+3) [] (n+3) [.ref 26 (frT g ss bs r),iF g.qk,iF 0]=_:=e9
 have e2:=q35 (F:=λm i=>q27.l2 (n+3) [] m [.ref 26 (frT g ss bs r),.list 7 (ss.map StpV.fv),iF (ss.length:Int),iF (i:Int)]) (len:=ss.length) (P:=λi=>inR (r.xAt i) 0 (ss.getD i default).qty) (fin:=q27.l9 (n+3) [] (n+3) [.ref 26 (frT g ss bs r),iF g.qk,iF 0]) (stop:=some [.bool false]) (λm i hi=>by
  show q27.l2 (n+3) [] (m+1) _=_;have i1:i<r.x.length:=by omega
  have hok:=hst _ (List.getElem_mem hi);unfold q4f at hok;simp only[Bool.and_eq_true,q5i]at hok;rw[q27.qu,decide_eq_true (by omega),cond_true,List.length_map,qc hi];simp (disch:=omega) only[q4a hi,Option.bind_some,List.getElem?_cons_zero,List.getElem?_cons_succ,qb,qa,qg];rw[at_one,show(frT g ss bs r).cells=T1 g ss bs r [] from rfl];simp only[List.getElem?_cons_succ,List.getElem?_cons_zero,q9,Option.bind_some,List.length_map];rw[qc i1];simp (disch:=omega) only[q5f i1,Option.bind_some,List.getElem?_cons_zero,List.getElem?_cons_succ,q9,qa];rw[qis (q34 (h.x _ (List.getElem_mem i1))) (by omega) (by omega),qi (by omega),getD_at _ _ hi];simp (disch:=omega) only[Option.bind_some,List.getElem?_cons_zero,qa];unfold ResV.xAt;rw[getD_at _ _ i1];cases inR (rd r.x[i]) 0 ss[i].qty <;> rfl) (λm=>by
  show q27.l2 (n+3) [] (m+1) _=_;rw[q27.qu,decide_eq_false (by omega),cond_false,at_one,show(frT g ss bs r).cells=T1 g ss bs r [] from rfl]
  simp only[List.getElem?_cons_succ,List.getElem?_cons_zero,qb,Option.bind_some]) ss.length 0 (n+3) (by omega) (by omega)
 have e2:q27.l2 (n+3) [] (n+3) [.ref 26 (frT g ss bs r),.list 7 (ss.map StpV.fv),iF (ss.length:Int),iF 0]=_:=e2;rw[qnf,at_one,show(frT g ss bs r).cells=T1 g ss bs r [] from rfl];simp only[List.getElem?_cons_succ,List.getElem?_cons_zero,q9,Option.bind_some,List.length_map];rw[e2,e9];unfold q6q;have hfa:∀i,i<g.qk.toNat->(q99 g (r.f.getD i [])&&(r.p.getD i []).all λt=>inR (rd t) g.low g.high)=(((List.range' 0 g.lines.length).all λk=>inR (r.fAt i k) (-(g.lines.getD k default).cap) (g.lines.getD k default).cap)&&(List.range' 0 g.qm.toNat).all λz=>inR (r.pAt i z) g.low g.high):=by
  intro i hi;obtain⟨l1,l2⟩:=hs.lens i hi;have i1:i<r.f.length:=by omega
  have hal:(r.f.getD i []).all isNum=true:=by
   unfold q20 at hr;simp only[Bool.and_eq_true]at hr;rw[getD_at _ _ i1];exact List.all_eq_true.1 hr.1.2 _ (List.getElem_mem i1)
  unfold q99;rw[hal,decide_eq_true l1,Bool.true_and,Bool.true_and,l1,qit (r.p.getD i []) _ [],show(r.p.getD i []).length=g.qm.toNat by omega];rfl
 rw[qhe hfa];cases(List.range' 0 ss.length).all λi=>inR (r.xAt i) 0 (ss.getD i default).qty with
 |false=>rfl
 |true =>
  rw[cond_true,Bool.true_and];cases(List.range' 0 g.qk.toNat).all λi=>(((List.range' 0 g.lines.length).all λk=>inR (r.fAt i k) (-(g.lines.getD k default).cap) (g.lines.getD k default).cap)&&(List.range' 0 g.qm.toNat).all λz=>inR (r.pAt i z) g.low g.high) <;> rfl
end
end Rf
end
section
/- Check, piece by piece: what blocks give; the balance of each zone and hour. -/
set_option maxHeartbeats 4000000
namespace Rf
open Go
theorem qph{β:Type}(Z k:Nat)(f:Nat->β)(v:β):((List.range Z).map f).set k v=(List.range Z).map λz=>if z=k then v else f z:=by
 apply List.ext_getElem?;intro i;rw[List.getElem?_set,List.getElem?_map,List.getElem?_map,List.length_map,List.length_range];by_cases hi:i<Z
 ·rw[List.getElem?_range hi];by_cases hk:k=i
  ·subst hk;simp[hi]
  ·simp[hk,Ne.symm hk]
 ·rw[List.getElem?_eq_none (by rw[List.length_range];omega)];by_cases hk:k=i
  ·subst hk;simp[hi]
  ·simp[hk]
section
variable {g:q11} {ss:List StpV} {bs:List BlkV} {r:ResV} {ac:List Bool}
def Smq(bs:List BlkV):Prop:=∀b,b∈bs->∀q,q∈b.qty->0<=q/\q<=1000
theorem qeu(hq:Smq bs)(h z:Nat):∀i:Nat,-(1000*(i:Int))<=netAt bs ac h z i/\netAt bs ac h z i<=1000*(i:Int)
 |0=>by simp[netAt]
 |i+1=>by
  obtain⟨h1,h2⟩:=qeu hq h z i;unfold netAt;split
  ·rename_i b hb ha;split
   ·rename_i hc;have:b.qty.getD h 0=b.qty[h]'hc.2:=getD_at _ _ hc.2;obtain⟨q1,q2⟩:=hq b (List.mem_of_getElem? hb) _ (List.getElem_mem hc.2);rw[this];have e:∀q:Int,0<=q->q<=1000->-(1000*((i+1:Nat):Int))<=netAt bs ac h z i+(if b.buy=true then -q else q)/\netAt bs ac h z i+(if b.buy=true then -q else q)<=1000*((i+1:Nat):Int):=λq a1 a2=>by split <;> omega
    exact e _ q1 q2
   ·omega
  ·omega
theorem net_step(h:Nat){i Z:Nat}(hi:i<bs.length)(ha:i<ac.length)(hac:ac[i]=true){k:Nat}(hk:bs[i].zone=(k:Int))(hq:h<bs[i].qty.length):((List.range Z).map λz=>iF (netAt bs ac h z i)).set k (iF (netAt bs ac h k i+(if bs[i].buy then -bs[i].qty[h]else bs[i].qty[h])))=(List.range Z).map λz=>iF (netAt bs ac h z (i+1)):=by
 rw[qph];refine List.map_congr_left λz _=>?_
 rw[show netAt bs ac h z (i+1)=netAt bs ac h z i+match bs[i]?,ac[i]? with
  |some b,some true=>if b.zone=(z:Int)/\h<b.qty.length then(if b.buy then -(b.qty.getD h 0)else b.qty.getD h 0)else 0
  |_,_=>0 from rfl,List.getElem?_eq_getElem hi,List.getElem?_eq_getElem ha,hac]
 simp only;rw[getD_at _ _ hq];by_cases hz:z=k
 ·subst hz;have hb:bs[i].zone=(z:Int)/\h<bs[i].qty.length:=⟨hk,hq⟩;rw[if_pos rfl,if_pos hb]
 ·have hb:¬ (bs[i].zone=(z:Int)/\h<bs[i].qty.length):=λq=>hz (by omega);rw[if_neg hz,if_neg hb];simp
theorem net_skip(h:Nat){i Z:Nat}(hz:∀z,z<Z->¬ (∃b,bs[i]?=some b/\ac[i]?=some true/\b.zone=(z:Int)/\h<b.qty.length)):((List.range Z).map λz=>iF (netAt bs ac h z i))=(List.range Z).map λz=>iF (netAt bs ac h z (i+1)):=by
 refine List.map_congr_left λz hzm=>?_;have:=hz z (List.mem_range.1 hzm)
 rw[show netAt bs ac h z (i+1)=netAt bs ac h z i+match bs[i]?,ac[i]? with
  |some b,some true=>if b.zone=(z:Int)/\h<b.qty.length then(if b.buy then -(b.qty.getD h 0)else b.qty.getD h 0)else 0
  |_,_=>0 from rfl]
 split
 ·rename_i b hb ha;rw[if_neg (λq=>this ⟨b,hb,ha,q⟩)];simp
 ·simp
theorem rangeF_at{Z k:Nat}(hk:k<Z)(f:Nat->Int):at' ((List.range Z).map λz=>iF (f z)) k 0=some (iF (f k)):=by
 rw[q21,List.getElem?_range hk];rfl
def netL(bs:List BlkV)(ac:List Bool)(h Z:Nat):List FV:=(List.range Z).map λz=>iF (netV bs ac h z)
theorem net_run{n h:Nat}(hz:1<=g.qm/\g.qm<=3)(hb:bs.length<=256)(ha:ac.length<=256)(hql:∀b,b∈bs->b.qty.length<=256)(hq:Smq bs)(hh:h<=1000)(hn:400<=n) :
  evF EnA n 110 (gL g++[.list 8 (bs.map BlkV.fv),.list 1 (ac.map .bool),iF (h:Int)])=some [.list 1 (netL bs ac h g.qm.toNat)]:=by
 obtain⟨n,rfl⟩:∃k,n=k+2:=⟨n-2,by omega⟩;unfold gL;simp only[List.cons_append,List.nil_append];have e0:(if(0:Int)<(if 3<g.qm then 3 else g.qm)then(if 3<g.qm then 3 else g.qm)else 0)=((g.qm.toNat:Nat):Int):=by
  rw[if_neg (show ¬ 3<g.qm by omega),if_pos (by omega)];omega
 have e1:q1m 8 ((g.qm.toNat:Nat):Int)=some g.qm.toNat:=by
  unfold q1m;rw[if_pos ⟨by omega,by omega,by omega⟩,Int.toNat_natCast]
 have hml:(if((bs.length:Nat):Int)<((ac.length:Nat):Int)then((bs.length:Nat):Int)else((ac.length:Nat):Int))=((min bs.length ac.length:Nat):Int):=by split <;> omega
 rw[qnc,e0,e1,Option.bind_some,q1p (Nat.le_refl _),Option.bind_some,List.length_map,List.length_map,hml,q1p (by omega),Option.bind_some,List.drop_zero,<- List.map_take,List.length_map,List.length_take];have hlen:min (min bs.length ac.length) ac.length=min bs.length ac.length:=by omega
 rw[hlen];have key:∀(d i m:Nat),i+d=min bs.length ac.length->d<m->q3m.l3 (n+1) [] m [.list 8 (bs.map BlkV.fv),iF (h:Int),.list 1 ((List.range g.qm.toNat).map λz=>iF (netAt bs ac h z i)),.list 1 ((ac.take (min bs.length ac.length)).map .bool),iF ((min bs.length ac.length:Nat):Int),iF (i:Int)]=some [.list 1 (netL bs ac h g.qm.toNat)]:=by
  intro d
  induction d with
  |zero =>
   intro i m hi hm;obtain⟨m,rfl⟩:=qSx m (by omega);rw[q3m.qv,decide_eq_false (by omega),cond_false];unfold netL netV;rw[show i=min bs.length ac.length by omega]
  |succ d ih =>
   intro i m hi hm;obtain⟨m,rfl⟩:=qSx m (by omega);have i1:i<bs.length:=by omega
   have i2:i<ac.length:=by omega
   have i3:i<(ac.take (min bs.length ac.length)).length:=by rw[List.length_take];omega
   have hac:(ac.take (min bs.length ac.length))[i]=ac[i]:=List.getElem_take;rw[q3m.qv,decide_eq_true (by omega),cond_true,List.length_map,List.length_map,qc i3,qc i1,qi (by omega)];simp (disch:=omega) only[q9l i3,q3o i1,Option.bind_some,List.getElem?_cons_zero,List.getElem?_cons_succ,q9,qb,qa,qg];rw[hac,List.length_map,List.length_map,List.length_range];have skip:¬ (ac[i]=true/\0<=bs[i].zone/\bs[i].zone<g.qm/\h<bs[i].qty.length)->q3m.l3 (n+1) [] m [.list 8 (bs.map BlkV.fv),iF (h:Int),.list 1 ((List.range g.qm.toNat).map λz=>iF (netAt bs ac h z i)),.list 1 ((ac.take (min bs.length ac.length)).map .bool),iF ((min bs.length ac.length:Nat):Int),iF ((i+1:Nat):Int)]=some [.list 1 (netL bs ac h g.qm.toNat)]:=by
    intro hno
    rw[net_skip (bs:=bs) (ac:=ac) h (i:=i) (Z:=g.qm.toNat) λz hz ⟨b,e1,e2,e3,e4⟩=>hno (by
     rw[List.getElem?_eq_getElem i1]at e1;rw[List.getElem?_eq_getElem i2]at e2;cases e1
     refine⟨by simpa using e2,by omega,by omega,e4⟩)]
    exact ih (i+1) m (by omega) (by omega)
   by_cases c1:ac[i]=true
   ·rw[c1,cond_true];by_cases c2:0<=bs[i].zone
    ·rw[decide_eq_true c2,cond_true];by_cases c3:bs[i].zone<g.qm
     ·rw[decide_eq_true (show bs[i].zone<((g.qm.toNat:Nat):Int) by omega),cond_true,decide_eq_true (show(0:Int)<=(h:Int) by omega),cond_true];by_cases c4:h<bs[i].qty.length
      ·obtain⟨k,hk⟩:∃k:Nat,bs[i].zone=(k:Int):=⟨bs[i].zone.toNat,by omega⟩;have hkz:k<g.qm.toNat:=by omega
       obtain⟨q1,q2⟩:=hq _ (List.getElem_mem i1) _ (List.getElem_mem c4);obtain⟨b1,b2⟩:=qeu (ac:=ac) hq h k i;have hsg:evF EnA (n+1) 171 [.bool bs[i].buy]=some [iF (if bs[i].buy then -1 else 1)]:=by
        rw[qhk];cases bs[i].buy <;> rfl
       have hv:IntKind.wrap .i64 (netAt bs ac h k i+IntKind.wrap .i64 ((if bs[i].buy then -1 else 1)*bs[i].qty[h]))=netAt bs ac h k i+(if bs[i].buy then -bs[i].qty[h]else bs[i].qty[h]):=by
        cases bs[i].buy
        ·simp only[Bool.false_eq_true,if_false,Int.one_mul];rw[qq (x:=bs[i].qty[h]) (by omega) (by omega),qq (by omega) (by omega)]
        ·simp only[if_true];rw[show(-1:Int)*bs[i].qty[h]=-bs[i].qty[h] by omega,qq (x:=-bs[i].qty[h]) (by omega) (by omega),qq (by omega) (by omega)]
       rw[decide_eq_true (show((h:Nat):Int)<((bs[i].qty.length:Nat):Int) by omega),cond_true,hk,qc hkz];simp (disch:=omega) only[rangeF_at hkz,Option.bind_some,qb];rw[hsg];simp (disch:=omega) only[Option.bind_some,List.getElem?_cons_zero,qb];rw[qc c4];simp (disch:=omega) only[q71 c4,Option.bind_some,qb];rw[hv,net_step h i1 i2 c1 hk c4];exact ih (i+1) m (by omega) (by omega)
      ·rw[decide_eq_false (show ¬ ((h:Nat):Int)<((bs[i].qty.length:Nat):Int) by omega),cond_false];exact skip λq=>c4 q.2.2.2
     ·rw[decide_eq_false (show ¬ bs[i].zone<((g.qm.toNat:Nat):Int) by omega),cond_false];exact skip λq=>c3 q.2.2.1
    ·rw[decide_eq_false c2,cond_false];exact skip λq=>c2 q.2.1
   ·rw[Bool.eq_false_iff.2 c1,cond_false];exact skip λq=>c1 q.1
 have k0:=key (min bs.length ac.length) 0 (n+1) (by omega) (by omega);have e2:((List.range g.qm.toNat).map λz=>iF (netAt bs ac h z 0))=List.replicate g.qm.toNat (iF 0):=by
  rw[show(λz=>iF (netAt bs ac h z 0))=λ_=>iF 0 from rfl,List.map_const',List.length_range]
 rw[e2]at k0;exact k0
theorem qev{L:List Rat}{k:Nat}(hk:k<L.length)(c:Nat):at' (L.map ratF) k c=[zl (L.getD k 0).num,zb (L.getD k 0).num,nL (L.getD k 0).den,.bool false][c]?:=by rw[rat_at hk,getD_at _ _ hk]
theorem qcd{L:List Rat}{k:Nat}(v:Rat):(L.map ratF).set k (.agg [zl (v).num,zb (v).num,nL (v).den,.bool false])=(L.set k v).map ratF:=by rw[List.map_set];rfl
theorem qpi{n:Nat}{L:List Rat}(hL:∀q,q∈L->Sz q)(hl:L.length<=1000)(hn:1100<=n):evF EnA n 200109 [.list 4 (L.map ratF),.raw (Go.Value.func (Go.Fn.func 114) #[] #[])]=some [.bool (!L.all λq=>decide (q=0))]:=by
 obtain⟨n,rfl⟩:∃k,n=k+4:=⟨n-4,by omega⟩
 have h:=qac L (λq=>!decide (q=0)) (pre:=[]) (F:=λm i=>q58.l2 (n+2) [] m [.list 4 (L.map ratF),.raw (Go.Value.func (Go.Fn.func 114) #[] #[]),iF (L.length:Int),iF (i:Int)]) (λm i hi=>by
  show q58.l2 (n+2) [] (m+1) _=_;rw[q58.qu,decide_eq_true (by omega),cond_true,List.length_map,qc hi];simp (disch:=omega) only[rat_at hi,Option.bind_some,List.getElem?_cons_zero,List.getElem?_cons_succ,q9,qa];rw[qnd,a_sign (hL _ (List.getElem_mem hi))];simp (disch:=omega) only[Option.bind_some,List.getElem?_cons_zero,qb,qa];rw[sgn_ne0,qi (by omega)];rfl) (λm=>by
  show q58.l2 (n+2) [] (m+1) _=_;rw[q58.qu,decide_eq_false (by omega),cond_false]
  rfl) L.length 0 (n+2) (by omega) (by omega) (λj _ hj=>by omega)
 rw[qni,qnj,List.length_map];have h:q58.l2 (n+2) [] (n+2) [.list 4 (L.map ratF),.raw (Go.Value.func (Go.Fn.func 114) #[] #[]),iF (L.length:Int),iF 0]=_:=h;rw[h,List.nil_append];simp (disch:=omega) only[Option.bind_some,List.getElem?_cons_zero,qb];rw[qcb,List.any_eq_not_all_not];simp only[Bool.not_not]
def q3p(k:Nat)(L:List Rat):Prop:=∀q,q∈L->Bd k q
theorem q3p.set{k:Nat}{L:List Rat}(h:q3p k L){i:Nat}{v:Rat}(hv:Bd k v):q3p k (L.set i v):=λq hq=>by
 rcases List.mem_or_eq_of_mem_set hq with hq | rfl
 ·exact h q hq
 ·exact hv
theorem q3p.mono{k m:Nat}{L:List Rat}(h:q3p k L)(hm:k<=m):q3p m L:=λq hq=>(h q hq).mono hm
theorem q3p.getD{k:Nat}{L:List Rat}(h:q3p k L){i:Nat}(hi:i<L.length):Bd k (L.getD i 0):=by rw[getD_at _ _ hi];exact h _ (List.getElem_mem hi)
structure q1y(g:q11)(ss:List StpV)(bs:List BlkV)(r:ResV):Prop where
 sm:Sm g ss bs r
 sh:q3y g ss bs r
 read:q20 r=true
theorem qew(h:q2h g ss bs=true):∀s,s∈ss->0<=s.zone/\s.zone<g.qm/\0<=s.hour/\s.hour<g.qk/\1<=s.qty/\s.qty<=1000/\g.low<=s.qo/\s.qo<=g.high:=λs hs=>by
 unfold q2h at h;simp only[Bool.and_eq_true,List.all_eq_true]at h;have:=h.1.1.1.1.2 s hs;unfold q4f at this;simp only[Bool.and_eq_true,q5i]at this;omega
theorem qex(h:q2h g ss bs=true):∀b,b∈bs->0<=b.zone/\b.zone<g.qm/\g.low<=b.qo/\b.qo<=g.high/\(b.qty.length:Int)=g.qk/\(∀q,q∈b.qty->0<=q/\q<=1000):=λb hb=>by
 unfold q2h at h;simp only[Bool.and_eq_true,List.all_eq_true]at h;have:=h.1.1.1.2 b hb;unfold q67 at this;simp only[Bool.and_eq_true,q5i,decide_eq_true_eq,List.all_eq_true]at this;obtain⟨⟨⟨⟨h1,h2⟩,h3⟩,h4⟩,_⟩:=this;exact⟨h1.1,by omega,h2.1,h2.2,h3,λq hq=>h4 q hq⟩
theorem qce(h:q2h g ss bs=true):ss.length<=32/\bs.length<=12:=by
 unfold q2h at h;simp only[Bool.and_eq_true,decide_eq_true_eq]at h;exact⟨h.1.1.1.1.1.1.2,h.1.1.1.1.1.2⟩
theorem qm7{n:Nat}(G:q1y g ss bs r)(hn:5000<=n):evF EnA n 47 (T1 g ss bs r [])=some (T1 g ss bs r [.bool (balV g ss bs r)]):=by
 obtain⟨n,rfl⟩:∃k,n=k+4:=⟨n-4,by omega⟩;have h:=G.sm;have hs:=G.sh;obtain⟨z1,z2,z3,z4,z5,z6,z7,z8,z9⟩:=q6d (q6e hs.ord);obtain⟨o1,o2⟩:=qce hs.ord;have hst:=qew hs.ord;have hbl:=qex hs.ord;have lf:=hs.f;have lp:=hs.p;have lx:=hs.x
 let Z:=g.qm.toNat
 have hZ:g.qm=(Z:Int):=by show g.qm=((g.qm.toNat:Nat):Int);omega
 have hZ3:Z<=3:=by omega
 have hsz:∀s,s∈ss->0<=s.zone/\s.zone<(Z:Int):=λs hs=>by have:=hst s hs;omega
 have hlz:∀l,l∈g.lines->0<=l.src/\l.src<(Z:Int)/\0<=l.dst/\l.dst<(Z:Int):=λl hl=>by have:=qao (z6 l hl);omega
 have hour:∀(d i m:Nat),i+d=g.qk.toNat->d<m->q13.l2 (n+3) [] m (T1 g ss bs r [iF g.qk,iF (i:Int)])=some (T1 g ss bs r [.bool ((List.range' i d).all λh=>(List.range' 0 Z).all λz=>decide (q69 ss bs r h z=expV g.lines r h z))]):=by
  intro d
  induction d with
  |zero =>
   intro i m hi hm;obtain⟨m,rfl⟩:=qSx m (by omega);rw[q13.qu,decide_eq_false (by omega),cond_false];rfl
  |succ d ih =>
   intro i m hi hm;obtain⟨m,rfl⟩:=qSx m (by omega);have i1:i<r.f.length:=by omega
   have i2:i<r.p.length:=by omega
   obtain⟨lf1,lp1⟩:=hs.lens i (by omega);rw[getD_at _ _ i1]at lf1;have hnet:=net_run (g:=g) (bs:=bs) (ac:=r.accept) (n:=n+3) (h:=i) ⟨z1,z2⟩ h.bsl h.acl h.q (λb hb q hq=>(hbl b hb).2.2.2.2.2 q hq) (by omega) (by omega);unfold gL at hnet;simp only[List.cons_append,List.nil_append]at hnet;have e1:q1m 64 g.qm=some Z:=by
    rw[hZ];unfold q1m;rw[if_pos ⟨by omega,by omega,by omega⟩,Int.toNat_natCast]
   rw[q13.qu,decide_eq_true (by omega),cond_true,e1,Option.bind_some,show bd g.qm Z=some Z by rw[hZ];exact q1p (Nat.le_refl _),Option.bind_some,hnet];simp (disch:=omega) only[Option.bind_some,List.getElem?_cons_zero,q9]
   let N:List Int:=(List.range Z).map λz=>netV bs r.accept i z
   have hN:netL bs r.accept i g.qm.toNat=N.map iF:=by
    show _=((List.range Z).map λz=>netV bs r.accept i z).map iF;rw[List.map_map];rfl
   have hNl:N.length=Z:=by show((List.range Z).map _).length=Z;rw[List.length_map,List.length_range]
   have hNb:∀x,x∈N->-12000<=x/\x<=12000:=λx hx=>by
    obtain⟨z,_,rfl⟩:=List.mem_map.1 hx;have:=qeu (bs:=bs) (ac:=r.accept) (λb hb q hq=>(hbl b hb).2.2.2.2.2 q hq) i z (min bs.length r.accept.length);unfold netV;omega
   let L0:List Rat:=N.map λx=>((x:Int):Rat)
   have hL0:L0.length=Z:=by show(N.map _).length=Z;rw[List.length_map,hNl]
   have hL0b:q3p 20 L0:=λq hq=>by
    obtain⟨x,hx,rfl⟩:=List.mem_map.1 hq;obtain⟨b1,b2⟩:=hNb x hx;refine Bd.int ?_ (by omega);have:(2:Nat)^20=1048576:=rfl;omega
   have e19:=qa1 (F:=λm' k (L:List Rat)=>q13.l19 (n+3) [m] m' (T1 g ss bs r [iF (i:Int),.list 4 (L.map ratF),iF g.qk,iF (i:Int),.list 3 (g.lines.map q1a.fv),iF (g.lines.length:Int),iF (k:Int)])) (len:=g.lines.length) (g:=λk L=>lineP g.lines r i L k)
    (fin:=λL=>bif L.all (λq=>decide (q=0))then q13.l2 (n+3) [] m (T1 g ss bs r [iF g.qk,iF ((i+1:Nat):Int)])else some (T1 g ss bs r [.bool false])) (I:=λk L=>L.length=Z/\q3p (40000+2100*k) L) (λm' k L hk hI=>by
     show q13.l19 (n+3) [m] (m'+1) _=_;obtain⟨hIl,hIb⟩:=hI;have hlk:=hlz _ (List.getElem_mem hk);have hko:=qao (z6 _ (List.getElem_mem hk));obtain⟨sk,hsk⟩:∃k':Nat,g.lines[k].src=(k':Int):=⟨g.lines[k].src.toNat,by omega⟩;obtain⟨dk,hdk⟩:∃k':Nat,g.lines[k].dst=(k':Int):=⟨g.lines[k].dst.toNat,by omega⟩;have s1:sk<L.length:=by omega
     have s2:dk<L.length:=by omega
     have f1:k<r.f[i].length:=by omega
     have hfl:=(h.f _ (List.getElem_mem i1)).2 _ (List.getElem_mem f1);have b1:Sz (L.getD sk 0):=(hIb.getD s1).mono (by omega);have b2:Bd (40000+2100*k+1024+1) (L.getD sk 0-rd r.f[i][k]):=(hIb.getD s1).sub (q42 hfl);have s3:dk<(L.set sk (L.getD sk 0-rd r.f[i][k])).length:=by rw[List.length_set];exact s2
     have b3:q3p (40000+2100*k+1025) (L.set sk (L.getD sk 0-rd r.f[i][k])):=(hIb.mono (by omega)).set b2;have b4:Sz ((L.set sk (L.getD sk 0-rd r.f[i][k])).getD dk 0):=(b3.getD s3).mono (by omega);rw[q13.q6x,decide_eq_true (by omega),cond_true];simp only[List.length_map];rw[qc hk];simp (disch:=omega) only[qca hk,Option.bind_some,List.getElem?_cons_zero,List.getElem?_cons_succ,qb];rw[hsk,hdk,qc s1];simp (disch:=omega) only[qev s1,Option.bind_some,List.getElem?_cons_zero,List.getElem?_cons_succ,q9,qa];rw[qc i1];simp (disch:=omega) only[Option.bind_some];rw[show at' (r.f.map numR) i 0=some (.list 4 (r.f[i].map λt=>ratF (rd t))) by rw[q21,List.getElem?_eq_getElem i1];rfl];simp (disch:=omega) only[Option.bind_some,q9];rw[List.length_map,qc f1];simp (disch:=omega) only[q5f f1,Option.bind_some,List.getElem?_cons_zero,List.getElem?_cons_succ,q9,qa];rw[a_sub b1 (q34 hfl) (qj _) (qj _)];simp (disch:=omega) only[Option.bind_some,List.getElem?_cons_zero,List.getElem?_cons_succ,q9,qa];rw[qcd,List.length_map,qc s3];simp (disch:=omega) only[qev s3,Option.bind_some,List.getElem?_cons_zero,List.getElem?_cons_succ,q9,qa];rw[a_add b4 (q34 hfl) (qj _) (qj _)];simp (disch:=omega) only[Option.bind_some,List.getElem?_cons_zero,List.getElem?_cons_succ,q9,qa];rw[qcd,qi (by omega)];unfold lineP;rw[List.getElem?_eq_getElem hk];simp only;rw[hsk,hdk,Int.toNat_natCast,Int.toNat_natCast,show r.fAt i k=rd r.f[i][k] by unfold ResV.fAt;rw[getD_at _ _ i1,getD_at _ _ f1]]) (λk L hk hI=>by
     obtain⟨hIl,hIb⟩:=hI;refine⟨(qiw L k).trans hIl,?_⟩;have hlk:=hlz _ (List.getElem_mem hk);have f1:k<r.f[i].length:=by omega
     have hfl:=(h.f _ (List.getElem_mem i1)).2 _ (List.getElem_mem f1);have ef:r.fAt i k=rd r.f[i][k]:=by unfold ResV.fAt;rw[getD_at _ _ i1,getD_at _ _ f1]
     unfold lineP;rw[List.getElem?_eq_getElem hk];simp only;have s1:g.lines[k].src.toNat<L.length:=by omega
     have b2:Bd (40000+2100*k+1024+1) (L.getD g.lines[k].src.toNat 0-r.fAt i k):=(hIb.getD s1).sub (by rw[ef];exact q42 hfl);have b3:q3p (40000+2100*k+1025) (L.set g.lines[k].src.toNat (L.getD g.lines[k].src.toNat 0-r.fAt i k)):=(hIb.mono (by omega)).set b2;have s3:g.lines[k].dst.toNat<(L.set g.lines[k].src.toNat (L.getD g.lines[k].src.toNat 0-r.fAt i k)).length:=by rw[List.length_set];omega
     refine(b3.mono (by omega)).set (((b3.getD s3).add (m:=1024) (by rw[ef];exact q42 hfl)).mono (by omega))) (λm' L hI=>by
     show q13.l19 (n+3) [m] (m'+1) _=_;rw[q13.q6x,decide_eq_false (by omega),cond_false,qpi (λq hq=>(hI.2 q hq).mono (by omega)) (by have:=hI.1;omega) (by omega),qi (by omega)];simp (disch:=omega) only[Option.bind_some,List.getElem?_cons_zero,qa]
     cases L.all λq=>decide (q=0) <;> rfl)
   have e11:=qa1 (F:=λm' k (L:List Rat)=>q13.l11 (n+3) [m] m' (T1 g ss bs r [iF (i:Int),.list 4 (L.map ratF),iF g.qk,iF (i:Int),.list 7 (ss.map StpV.fv),iF (ss.length:Int),iF (k:Int)])) (len:=ss.length) (g:=λk L=>stepP ss r i L k)
    (fin:=λL=>q13.l19 (n+3) [m] (n+3) (T1 g ss bs r [iF (i:Int),.list 4 (L.map ratF),iF g.qk,iF (i:Int),.list 3 (g.lines.map q1a.fv),iF (g.lines.length:Int),iF 0])) (I:=λk L=>L.length=Z/\q3p (20+1100*k) L) (λm' k L hk hI=>by
     show q13.l11 (n+3) [m] (m'+1) _=_;obtain⟨hIl,hIb⟩:=hI;have hzk:=hsz _ (List.getElem_mem hk);have x1:k<r.x.length:=by omega
     obtain⟨zk,hzz⟩:∃k':Nat,ss[k].zone=(k':Int):=⟨ss[k].zone.toNat,by omega⟩;have s1:zk<L.length:=by omega
     have hxl:=h.x _ (List.getElem_mem x1);have b1:Sz (L.getD zk 0):=(hIb.getD s1).mono (by omega);rw[q13.qa2,decide_eq_true (by omega),cond_true];simp only[List.length_map];rw[qc hk];simp (disch:=omega) only[q4a hk,Option.bind_some,List.getElem?_cons_zero,List.getElem?_cons_succ,qb,qa,qg];rw[qi (by omega)];unfold stepP;rw[List.getElem?_eq_getElem hk,hzz,ine];simp only;by_cases hh:ss[k].hour=(i:Int)
     ·rw[decide_eq_true hh,if_pos hh,Bool.not_true,cond_false,qc s1,hzz,Int.toNat_natCast,show r.xAt k=rd r.x[k] by unfold ResV.xAt;rw[getD_at _ _ x1]];simp (disch:=omega) only[qev s1,Option.bind_some,List.getElem?_cons_zero,List.getElem?_cons_succ,q9,qa];rw[qc x1];simp (disch:=omega) only[q5f x1,Option.bind_some,List.getElem?_cons_zero,List.getElem?_cons_succ,q9,qa];rw[a_sub b1 (q34 hxl) (qj _) (qj _),a_add b1 (q34 hxl) (qj _) (qj _)];simp (disch:=omega) only[Option.bind_some,List.getElem?_cons_zero,List.getElem?_cons_succ,q9,qa];rw[qcd,qcd];cases ss[k].buy <;> rfl
     ·rw[decide_eq_false hh,if_neg hh];rfl) (λk L hk hI=>by
     obtain⟨hIl,hIb⟩:=hI;refine⟨(qix L k).trans hIl,?_⟩;have hzk:=hsz _ (List.getElem_mem hk);have x1:k<r.x.length:=by omega
     have s1:ss[k].zone.toNat<L.length:=by omega
     have hxl:=h.x _ (List.getElem_mem x1);have hxe:Bd 1024 (r.xAt k):=by unfold ResV.xAt;rw[getD_at _ _ x1];exact q42 hxl
     unfold stepP;rw[List.getElem?_eq_getElem hk];simp only;split
     ·split
      ·exact(hIb.mono (by omega)).set (((hIb.getD s1).sub hxe).mono (by omega))
      ·exact(hIb.mono (by omega)).set (((hIb.getD s1).add hxe).mono (by omega))
     ·exact hIb.mono (by omega)) (λm' L hI=>by
     show q13.l11 (n+3) [m] (m'+1) _=_
     rw[q13.qa2,decide_eq_false (by omega),cond_false,List.length_map])
   have e6:=q35 (F:=λm' k=>q13.l6 (n+3) [m] m' (T1 g ss bs r [iF (i:Int),.list 4 ((N.take k).map (λx=>ratF ((x:Int):Rat))++List.replicate (N.length-k) (.agg [.list 1 [],.bool false,.list 1 [],.bool false])),iF g.qk,iF (i:Int),.list 1 (N.map iF),iF (N.length:Int),iF (k:Int)])) (len:=N.length) (P:=λ_=>true)
    (fin:=q13.l11 (n+3) [m] (n+3) (T1 g ss bs r [iF (i:Int),.list 4 (L0.map ratF),iF g.qk,iF (i:Int),.list 7 (ss.map StpV.fv),iF (ss.length:Int),iF 0])) (stop:=none) (λm' k hk=>by
     show q13.l6 (n+3) [m] (m'+1) _=_;obtain⟨b1,b2⟩:=hNb _ (List.getElem_mem hk);rw[q13.q2p,decide_eq_true (by omega),cond_true,List.length_map,qc hk];simp (disch:=omega) only[q71 hk,Option.bind_some,qb,cond_true];rw[a_of (by omega) (by omega)];simp (disch:=omega) only[Option.bind_some,List.getElem?_cons_zero,List.getElem?_cons_succ,q9,qa];rw[qc (by simp;omega),qi (by omega)];simp (disch:=omega) only[Option.bind_some];rw[show(FV.agg [zl (((N[k]:Int):Rat)).num,zb (((N[k]:Int):Rat)).num,nL (((N[k]:Int):Rat)).den,.bool false])=ratF ((N[k]:Int):Rat) from rfl,qda (λx:Int=>ratF ((x:Int):Rat)) _ N hk]) (λm'=>by
     show q13.l6 (n+3) [m] (m'+1) _=_
     rw[q13.q2p,decide_eq_false (by omega),cond_false,List.take_length,Nat.sub_self,List.replicate_zero,List.append_nil,List.length_map,show L0.map ratF=N.map λx=>ratF ((x:Int):Rat) by show(N.map _).map ratF=_;rw[List.map_map];rfl]) N.length 0 (n+3) (by omega) (by omega)
   have e6:q13.l6 (n+3) [m] (n+3) (T1 g ss bs r [iF (i:Int),.list 4 (List.replicate N.length (.agg [.list 1 [],.bool false,.list 1 [],.bool false])),iF g.qk,iF (i:Int),.list 1 (N.map iF),iF (N.length:Int),iF 0])=_:=e6;have hall1:(List.range' 0 N.length).all (λ_=>true)=true:=by rw[List.all_eq_true];intro _ _;rfl
   rw[hall1,cond_true,hNl]at e6;obtain⟨q1,q2⟩:=e11 ss.length 0 (n+3) L0 (by omega) (by omega) ⟨hL0,hL0b⟩;have q1:q13.l11 (n+3) [m] (n+3) (T1 g ss bs r [iF (i:Int),.list 4 (L0.map ratF),iF g.qk,iF (i:Int),.list 7 (ss.map StpV.fv),iF (ss.length:Int),iF 0])=_:=q1;obtain⟨q3,q4⟩:=e19 g.lines.length 0 (n+3) _ (by omega) (by omega) ⟨q2.1,q2.2.mono (by omega)⟩;have q3:=q3;rw[hN,List.length_map,hNl];refine(e6.trans (q1.trans q3)).trans ?_;have hleft:∀z,z<Z->((List.range' 0 g.lines.length).foldl (lineP g.lines r i) ((List.range' 0 ss.length).foldl (stepP ss r i) L0)).getD z 0=q69 ss bs r i z-expV g.lines r i z:=λz hz=>by
    refine left_at hsz hlz hL0 hz ?_;have hzN:z<N.length:=by omega
    have hzL:z<L0.length:=by omega
    rw[getD_at _ _ hzL];show(N.map λx=>((x:Int):Rat))[z]'(by rw[List.length_map];exact hzN)=_;rw[List.getElem_map];congr 1;show((List.range Z).map λz=>netV bs r.accept i z)[z]'(by rw[List.length_map,List.length_range];exact hz)=_;rw[List.getElem_map,List.getElem_range]
   have hall:((List.range' 0 g.lines.length).foldl (λs j=>lineP g.lines r i s j) ((List.range' 0 ss.length).foldl (λs j=>stepP ss r i s j) L0)).all (λq=>decide (q=0))=(List.range' 0 Z).all λz=>decide (q69 ss bs r i z=expV g.lines r i z):=by
    have hlen:((List.range' 0 g.lines.length).foldl (λs j=>lineP g.lines r i s j) ((List.range' 0 ss.length).foldl (λs j=>stepP ss r i s j) L0)).length=Z:=q4.1;rw[qit _ _ 0,hlen];refine qhe λz hz=>?_;rw[decide_eq_decide];rw[show((List.range' 0 g.lines.length).foldl (λs j=>lineP g.lines r i s j) ((List.range' 0 ss.length).foldl (λs j=>stepP ss r i s j) L0)).getD z 0=q69 ss bs r i z-expV g.lines r i z from hleft z hz];exact qpj
   rw[hall,ih (i+1) m (by omega) (by omega),List.range'_succ,List.all_cons];cases(List.range' 0 Z).all λz=>decide (q69 ss bs r i z=expV g.lines r i z) <;> rfl
 rw[qn2];exact hour g.qk.toNat 0 (n+3) (by omega) (by omega)
end
end Rf
end
section
/- Check, piece by piece: prices fit steps and lines; what blocks gain; welfare. -/
set_option maxHeartbeats 4000000
namespace Rf
open Go
theorem wneg{c:Int}(h:-1<=c/\c<=1):IntKind.wrap .i64 (0-c)=-c:=by rw[qq (by omega) (by omega)];omega
theorem neg_lt0(c:Int):decide (-c<0)=decide (c>0):=by rw[decide_eq_decide];omega
theorem neg_gt0(c:Int):decide (-c>0)=decide (c<0):=by rw[decide_eq_decide];omega
theorem qfg{P:List (List Txt)}{i:Nat}(h:i<P.length):at' (P.map numR) i 0=some (.list 4 (P[i].map λt=>ratF (rd t))):=by rw[q21,List.getElem?_eq_getElem h];rfl
section
variable {g:q11} {ss:List StpV} {bs:List BlkV} {r:ResV}
theorem q1y.pT(G:q1y g ss bs r){h z:Nat}(hh:h<g.qk.toNat)(hz:z<g.qm.toNat):∃(i1:h<r.p.length) (i2:z<r.p[h].length),r.pAt h z=rd r.p[h][z]/\r.p[h][z].length<=256:=by
 have lp:=G.sh.p;obtain⟨_,l2⟩:=G.sh.lens h hh;have i1:h<r.p.length:=by omega
 rw[getD_at _ _ i1]at l2;have i2:z<r.p[h].length:=by omega
 refine⟨i1,i2,?_,(G.sm.p _ (List.getElem_mem i1)).2 _ (List.getElem_mem i2)⟩;unfold ResV.pAt;rw[getD_at _ _ i1,getD_at _ _ i2]
theorem q1y.fT(G:q1y g ss bs r){h k:Nat}(hh:h<g.qk.toNat)(hk:k<g.lines.length):∃(i1:h<r.f.length) (i2:k<r.f[h].length),r.fAt h k=rd r.f[h][k]/\r.f[h][k].length<=256:=by
 have lf:=G.sh.f;obtain⟨l2,_⟩:=G.sh.lens h hh;have i1:h<r.f.length:=by omega
 rw[getD_at _ _ i1]at l2;have i2:k<r.f[h].length:=by omega
 refine⟨i1,i2,?_,(G.sm.f _ (List.getElem_mem i1)).2 _ (List.getElem_mem i2)⟩;unfold ResV.fAt;rw[getD_at _ _ i1,getD_at _ _ i2]
theorem q1y.xT(G:q1y g ss bs r){k:Nat}(hk:k<ss.length):∃(i1:k<r.x.length),r.xAt k=rd r.x[k]/\r.x[k].length<=256:=by
 have lx:=G.sh.x;have i1:k<r.x.length:=by omega
 refine⟨i1,?_,G.sm.x _ (List.getElem_mem i1)⟩;unfold ResV.xAt;rw[getD_at _ _ i1]
theorem qm8{n:Nat}(G:q1y g ss bs r)(hn:1000<=n):evF EnA n 48 (T1 g ss bs r [])=some (T1 g ss bs r [.bool (q7t ss r)]):=by
 obtain⟨n,rfl⟩:∃k,n=k+4:=⟨n-4,by omega⟩;obtain⟨z1,z2,z3,z4,z5,z6,z7,z8,z9⟩:=q6d (q6e G.sh.ord);obtain⟨o1,o2⟩:=qce G.sh.ord;have hst:=qew G.sh.ord
 have e:=q35 (F:=λm i=>q2t.l2 (n+3) [] m (T1 g ss bs r [.list 7 (ss.map StpV.fv),iF (ss.length:Int),iF (i:Int)])) (len:=ss.length) (P:=q73 ss r) (fin:=some (T1 g ss bs r [.bool true])) (stop:=some (T1 g ss bs r [.bool false])) (λm i hi=>by
  show q2t.l2 (n+3) [] (m+1) _=_;obtain⟨s1,s2,s3,s4,s5,s6,s7,s8⟩:=hst _ (List.getElem_mem hi);obtain⟨hk,hh⟩:∃k:Nat,ss[i].hour=(k:Int):=⟨ss[i].hour.toNat,by omega⟩;obtain⟨zk,hz⟩:∃k:Nat,ss[i].zone=(k:Int):=⟨ss[i].zone.toNat,by omega⟩;obtain⟨p1,p2,p3,p4⟩:=G.pT (h:=hk) (z:=zk) (by omega) (by omega);obtain⟨x1,x2,x3⟩:=G.xT hi;have f1:=a_of (n:=n+2) (z:=ss[i].qo) (by omega) (by omega);have f2:=q4u (n:=n+2) (q34 p4) (Sz.int (z:=ss[i].qo) (by omega) (by omega)) (qj _) (qj _);have f3:=a_sign (n:=n+2) (q34 x3) (l:=(dg 4294967296 (rd r.x[i]).den).map d32) (b:=false);have f4:=a_of (n:=n+2) (z:=ss[i].qty) (by omega) (by omega);have f5:=q4u (n:=n+2) (q34 x3) (Sz.int (z:=ss[i].qty) (by omega) (by omega)) (qj _) (qj _);rw[q2t.qu,decide_eq_true (by omega),cond_true];simp only[List.length_map];rw[qc hi];simp (disch:=omega) only[q4a hi,Option.bind_some,List.getElem?_cons_zero,List.getElem?_cons_succ,qb,qa,qg];rw[hh,hz,qc p1];simp (disch:=omega) only[qfg p1,Option.bind_some,q9];rw[List.length_map,qc p2];simp (disch:=omega) only[q5f p2,Option.bind_some,List.getElem?_cons_zero,List.getElem?_cons_succ,q9,qa];rw[f1];simp (disch:=omega) only[Option.bind_some,List.getElem?_cons_zero,List.getElem?_cons_succ,q9,qa];rw[f2];simp (disch:=omega) only[Option.bind_some,List.getElem?_cons_zero,qb];rw[qc x1];simp (disch:=omega) only[q5f x1,Option.bind_some,List.getElem?_cons_zero,List.getElem?_cons_succ,q9,qa];rw[f3,f4];simp (disch:=omega) only[Option.bind_some,List.getElem?_cons_zero,List.getElem?_cons_succ,q9,qb,qa];rw[f5];simp (disch:=omega) only[Option.bind_some,List.getElem?_cons_zero,qb];rw[wneg (cmpQ_bd _ _),neg_lt0,neg_gt0,q8i,q9p,q8i,sgn_gt0,qi (by omega)];unfold q73;rw[List.getElem?_eq_getElem hi];simp only;rw[hh,hz,Int.toNat_natCast,Int.toNat_natCast,p3,x2];cases ss[i].buy <;> cases decide (((ss[i].qo:Int):Rat)<rd r.p[hk][zk]) <;> cases decide (rd r.p[hk][zk]<((ss[i].qo:Int):Rat)) <;> cases decide (0<rd r.x[i]) <;> cases decide (rd r.x[i]<((ss[i].qty:Int):Rat)) <;> rfl) (λm=>by
  show q2t.l2 (n+3) [] (m+1) _=_
  rw[q2t.qu,decide_eq_false (by omega),cond_false]) ss.length 0 (n+3) (by omega) (by omega)
 have e:q2t.l2 (n+3) [] (n+3) (T1 g ss bs r [.list 7 (ss.map StpV.fv),iF (ss.length:Int),iF 0])=_:=e;rw[qn3,List.length_map,e];unfold q7t;cases(List.range' 0 ss.length).all (q73 ss r) <;> rfl
theorem lined_run{n:Nat}(G:q1y g ss bs r)(hn:1000<=n):evF EnA n 49 (T1 g ss bs r [])=some (T1 g ss bs r [.bool (q8r g r)]):=by
 obtain⟨n,rfl⟩:∃k,n=k+4:=⟨n-4,by omega⟩;obtain⟨z1,z2,z3,z4,z5,z6,z7,z8,z9⟩:=q6d (q6e G.sh.ord)
 have e:=q35 (F:=λm i=>q1z.l2 (n+3) [] m (T1 g ss bs r [iF g.qk,iF (i:Int)])) (len:=g.qk.toNat) (P:=λh=>(List.range' 0 g.lines.length).all (qaf g.lines r h)) (fin:=some (T1 g ss bs r [.bool true])) (stop:=some (T1 g ss bs r [.bool false])) (λm h hh=>by
  show q1z.l2 (n+3) [] (m+1) _=_
  have e5:=q35 (F:=λm' i=>q1z.l5 (n+3) [m] m' (T1 g ss bs r [iF (h:Int),iF g.qk,iF (h:Int),.list 3 (g.lines.map q1a.fv),iF (g.lines.length:Int),iF (i:Int)])) (len:=g.lines.length) (P:=qaf g.lines r h) (fin:=q1z.l2 (n+3) [] m (T1 g ss bs r [iF g.qk,iF ((h+1:Nat):Int)])) (stop:=some (T1 g ss bs r [.bool false])) (λm' i hi=>by
   show q1z.l5 (n+3) [m] (m'+1) _=_;have hl:=qao (z6 _ (List.getElem_mem hi));obtain⟨a,ha⟩:∃k:Nat,g.lines[i].src=(k:Int):=⟨g.lines[i].src.toNat,by omega⟩;obtain⟨b,hb⟩:∃k:Nat,g.lines[i].dst=(k:Int):=⟨g.lines[i].dst.toNat,by omega⟩;obtain⟨p1,p2,p3,p4⟩:=G.pT (h:=h) (z:=a) hh (by omega);obtain⟨_,q2,q3,q4⟩:=G.pT (h:=h) (z:=b) hh (by omega);obtain⟨g1,g2,g3,g4⟩:=G.fT (h:=h) (k:=i) hh hi;have f1:=q4u (n:=n+2) (q34 q4) (q34 p4) (qj _) (qj _);have f2:=a_of (n:=n+2) (z:=-g.lines[i].cap) (by omega) (by omega);have f3:=q4u (n:=n+2) (q34 g4) (Sz.int (z:=-g.lines[i].cap) (by omega) (by omega)) (qj _) (qj _);have f4:=a_of (n:=n+2) (z:=g.lines[i].cap) (by omega) (by omega);have f5:=q4u (n:=n+2) (q34 g4) (Sz.int (z:=g.lines[i].cap) (by omega) (by omega)) (qj _) (qj _);have hw:IntKind.wrap .i64 (0-g.lines[i].cap)=-g.lines[i].cap:=by rw[qq (by omega) (by omega)];omega
   rw[q1z.q1x,decide_eq_true (by omega),cond_true];simp only[List.length_map];rw[qc hi];simp (disch:=omega) only[qca hi,Option.bind_some,List.getElem?_cons_zero,List.getElem?_cons_succ,qb];rw[ha,hb,qc p1];simp (disch:=omega) only[qfg p1,Option.bind_some,q9];rw[List.length_map,qc q2,qc p2];simp (disch:=omega) only[q5f q2,q5f p2,Option.bind_some,List.getElem?_cons_zero,List.getElem?_cons_succ,q9,qa];rw[f1];simp (disch:=omega) only[Option.bind_some,List.getElem?_cons_zero,qb];rw[qc g1];simp (disch:=omega) only[qfg g1,Option.bind_some,q9];rw[List.length_map,qc g2];simp (disch:=omega) only[q5f g2,Option.bind_some,List.getElem?_cons_zero,List.getElem?_cons_succ,q9,qa];rw[hw,f2,f4];simp (disch:=omega) only[Option.bind_some,List.getElem?_cons_zero,List.getElem?_cons_succ,q9,qa];rw[f3,f5];simp (disch:=omega) only[Option.bind_some,List.getElem?_cons_zero,qb];rw[q8i,q9p,q9p,q8i,qi (by omega)];unfold qaf;rw[List.getElem?_eq_getElem hi];simp only;rw[ha,hb,Int.toNat_natCast,Int.toNat_natCast,p3,q3,g3];cases decide (rd r.p[h][b]<rd r.p[h][a]) <;> cases decide (rd r.p[h][a]<rd r.p[h][b]) <;> cases decide (((-g.lines[i].cap:Int):Rat)<rd r.f[h][i]) <;> cases decide (rd r.f[h][i]<((g.lines[i].cap:Int):Rat)) <;> rfl) (λm'=>by
   show q1z.l5 (n+3) [m] (m'+1) _=_
   rw[q1z.q1x,decide_eq_false (by omega),cond_false,qi (by omega)]) g.lines.length 0 (n+3) (by omega) (by omega)
  have e5:q1z.l5 (n+3) [m] (n+3) (T1 g ss bs r [iF (h:Int),iF g.qk,iF (h:Int),.list 3 (g.lines.map q1a.fv),iF (g.lines.length:Int),iF 0])=_:=e5;rw[q1z.qu,decide_eq_true (by omega),cond_true,List.length_map,e5]) (λm=>by
  show q1z.l2 (n+3) [] (m+1) _=_
  rw[q1z.qu,decide_eq_false (by omega),cond_false]) g.qk.toNat 0 (n+3) (by omega) (by omega)
 have e:q1z.l2 (n+3) [] (n+3) (T1 g ss bs r [iF g.qk,iF 0])=_:=e;rw[qn4,e];unfold q8r;cases(List.range' 0 g.qk.toNat).all λh=>(List.range' 0 g.lines.length).all (qaf g.lines r h) <;> rfl
theorem qm9{n:Nat}(h:Sm g ss bs r)(hn:10<=n):evF EnA n 50 (T1 g ss bs r [])=some (T1 g ss bs r [.bool (q3s bs r.accept)]):=by
 obtain⟨n,rfl⟩:∃k,n=k+2:=⟨n-2,by omega⟩;have:=h.bsl;rw[qn5,a_linked (by omega)];rfl
theorem sumR_fold{zn:Int}{P:List (List Txt)}{q:List Int}(hlen:P.length=q.length)(hnum:∀l,l∈P->isNum (l.getD zn.toNat [])=true)(pc:Rat):∀(d i:Nat) (acc:Rat),i+d=P.length ->
  sumR pc ((q2v zn P).drop i) (q.drop i) acc=some ((List.range' i d).foldl (λn h=>n+(rd ((P.getD h []).getD zn.toNat [])-pc)*((q.getD h 0:Int):Rat)) acc):=by
 intro d
 induction d with
 |zero =>
  intro i acc hi;rw[List.drop_of_length_le (by unfold q2v;rw[List.length_map];omega)];cases q.drop i <;> rfl
 |succ d ih =>
  intro i acc hi;have h1:i<P.length:=by omega
  have h2:i<q.length:=by omega
  rw[qc7 h1,List.drop_eq_getElem_cons h2,List.range'_succ,List.foldl_cons,getD_at P _ h1,getD_at q _ h2];have hn:=hnum _ (List.getElem_mem h1);unfold isNum at hn;obtain⟨v,hv⟩:=Option.isSome_iff_exists.1 hn;rw[rd_some hv];show(pr (P[i].getD zn.toNat [])).bind _=_;rw[hv,Option.bind_some];exact ih (i+1) _ (by omega)
theorem q1y.num(G:q1y g ss bs r):(∀t,t∈r.x->isNum t=true)/\isNum r.q1g=true/\isNum r.upper=true/\(∀l,l∈r.f->∀t,t∈l->isNum t=true)/\(∀l,l∈r.p->∀t,t∈l->isNum t=true):=by
 have:=G.read;unfold q20 at this;simp only[Bool.and_eq_true,List.all_eq_true]at this;obtain⟨⟨⟨⟨h1,h2⟩,h3⟩,h4⟩,h5⟩:=this;exact⟨h1,h2,h3,h4,h5⟩
theorem qjs(G:q1y g ss bs r){b:BlkV}(hb:b∈bs):POk b.qo b.qty r.p/\q95 b.zone b.qo b.qty r.p b.buy=[sF (qx (q98 b r)),iF 0]/\Bd (1+4099*256) (q98 b r):=by
 obtain⟨z1,z2,z3,z4,z5,z6,z7,z8,z9⟩:=q6d (q6e G.sh.ord);obtain⟨b1,b2,b3,b4,b5,b6⟩:=qex G.sh.ord b hb;have lp:=G.sh.p;have hpl:r.p.length=b.qty.length:=by omega
 have hzone:∀l,l∈r.p->0<=b.zone/\b.zone<(l.length:Int):=λl hl=>by
  obtain⟨h,hh,rfl⟩:=List.getElem_of_mem hl;obtain⟨_,l2⟩:=G.sh.lens h (by omega);rw[getD_at _ _ hh]at l2;omega
 have hP:POk b.qo b.qty r.p:=⟨by omega,λx hx=>by have:=b6 x hx;omega,⟨G.sm.pl,G.sm.p⟩,G.sm.q b hb⟩;have ho:r.p.any (oddZ b.zone)=false:=List.any_eq_false.2 λl hl=>by
  obtain⟨q1,q2⟩:=hzone l hl;unfold oddZ;rw[decide_eq_true q1,decide_eq_true q2];simp
 have hS:=hP.s hpl ho
 have hs:=sumR_fold (zn:=b.zone) hpl (λl hl=>by
  obtain⟨q1,q2⟩:=hzone l hl;have hz:b.zone.toNat<l.length:=by omega
  rw[getD_at _ _ hz]
  exact G.num.2.2.2.2 l hl _ (List.getElem_mem hz)) ((b.qo:Int):Rat) r.p.length 0 0 (by omega)
 rw[List.drop_zero,List.drop_zero]at hs;have hge:(List.range' 0 r.p.length).foldl (λn h=>n+(rd ((r.p.getD h []).getD b.zone.toNat [])-((b.qo:Int):Rat))*((b.qty.getD h 0:Int):Rat)) 0=gainV b r:=by
  unfold gainV;rw[hpl];rfl
 rw[hge]at hs;have hbd:=sum_bd hS r.p.length 0 0 _ (by omega) (by exact qaz.mono (by omega)) (by rw[List.drop_zero,List.drop_zero];exact hs);refine⟨hP,?_,?_⟩
 ·unfold q95;rw[if_pos ⟨hpl,ho⟩,hs];rfl
 ·exact hbd.sgn b.buy
theorem a_surp{n:Nat}(G:q1y g ss bs r){b:BlkV}(hb:b∈bs):evF EnA (n+1) 117 [.str b.who,iF b.seq,iF b.zone,.bool b.buy,iF b.qo,.list 1 (b.qty.map iF),iF b.parent,iF b.group,.list 1 (r.p.map rowF)]=some [sF (qx (q98 b r)),iF 0]:=by
 obtain⟨h1,h2,_⟩:=qjs G hb;have:=surp_ev (s0:=b.who.data.toList) (x1:=b.seq) (x2:=b.zone) (x6:=b.parent) (x7:=b.group) (b:=b.buy) h1;rw[h2]at this;have e:evF EnA (n+1) 117 [.str b.who,iF b.seq,iF b.zone,.bool b.buy,iF b.qo,.list 1 (b.qty.map iF),iF b.parent,iF b.group,.list 1 (r.p.map rowF)]=limO En 117 [.str b.who,iF b.seq,iF b.zone,.bool b.buy,iF b.qo,.list 1 (b.qty.map iF),iF b.parent,iF b.group,.list 1 (r.p.map rowF)]:=by kernel_rfl
 rw[e];exact q1v this
noncomputable def gainAt(bs:List BlkV)(r:ResV)(i:Nat):Bool:=match bs[i]?,r.accept[i]? with
 |some b,some true=>decide (0<=q98 b r)
 |_,_=>true
theorem qma{n:Nat}(G:q1y g ss bs r)(hn:1000<=n):evF EnA n 51 (T1 g ss bs r [])=some (T1 g ss bs r [.bool (q8s bs r)]):=by
 obtain⟨n,rfl⟩:∃k,n=k+4:=⟨n-4,by omega⟩;obtain⟨o1,o2⟩:=qce G.sh.ord;have la:=G.sh.ac
 have e:=q35 (F:=λm i=>q47.l2 (n+3) [] m (T1 g ss bs r [.list 8 (bs.map BlkV.fv),iF (bs.length:Int),iF (i:Int)])) (len:=bs.length) (P:=gainAt bs r) (fin:=some (T1 g ss bs r [.bool true])) (stop:=some (T1 g ss bs r [.bool false])) (λm i hi=>by
  show q47.l2 (n+3) [] (m+1) _=_;have hi2:i<r.accept.length:=by omega
  obtain⟨h1,h2,h3⟩:=qjs G (List.getElem_mem hi);have hlen:=h3.len;rw[q47.qu,decide_eq_true (by omega),cond_true];simp only[List.length_map];rw[qc hi];simp (disch:=omega) only[q3o hi,Option.bind_some,List.getElem?_cons_zero,List.getElem?_cons_succ,q9,qb,qa,qg];rw[qc hi2];simp (disch:=omega) only[q9l hi2,Option.bind_some,qa];rw[a_surp G (List.getElem_mem hi)];simp (disch:=omega) only[Option.bind_some,List.getElem?_cons_zero,List.getElem?_cons_succ,qb,qg];rw[q9n (q4z.2 rfl) (by omega)];simp (disch:=omega) only[Option.bind_some,List.getElem?_cons_zero,List.getElem?_cons_succ,q9,qb,qa];rw[a_sign (h3.mono (by omega))];simp (disch:=omega) only[Option.bind_some,List.getElem?_cons_zero,qb];rw[sgn_lt0,qi (by omega)];unfold gainAt;rw[List.getElem?_eq_getElem hi,List.getElem?_eq_getElem hi2];cases r.accept[i]with
  |false=>rfl
  |true =>
   simp only;by_cases hg:q98 bs[i] r<0
   ·rw[decide_eq_true hg,decide_eq_false (Rat.not_le.2 hg)];rfl
   ·rw[decide_eq_false hg,decide_eq_true (Rat.not_lt.1 hg)];rfl) (λm=>by
  show q47.l2 (n+3) [] (m+1) _=_
  rw[q47.qu,decide_eq_false (by omega),cond_false]) bs.length 0 (n+3) (by omega) (by omega)
 have e:q47.l2 (n+3) [] (n+3) (T1 g ss bs r [.list 8 (bs.map BlkV.fv),iF (bs.length:Int),iF 0])=_:=e;rw[qn6,List.length_map,e,show q8s bs r=(List.range' 0 bs.length).all (gainAt bs r) from rfl];cases(List.range' 0 bs.length).all (gainAt bs r) <;> rfl
theorem qjt{α σ:Type}(f:σ->α->σ)(d:α):∀(l:List α) (i:Nat) (s:σ),(List.range' i (l.length-i)).foldl (λs j=>f s (l.getD j d)) s=(l.drop i).foldl f s
 |l,i,s=>by
  by_cases h:i<l.length
  ·rw[show l.length-i=(l.length-(i+1))+1 by omega,List.range'_succ,List.foldl_cons,List.drop_eq_getElem_cons h,List.foldl_cons,getD_at _ _ h];exact qjt f d l (i+1) _
  ·rw[show l.length-i=0 by omega,List.drop_of_length_le (by omega)];rfl
 termination_by l i=>l.length-i
theorem qju{buy:Bool}{p:Int}(h:-100000<=p/\p<=100000):IntKind.wrap .i64 (IntKind.wrap .i64 (0-(if buy then -1 else 1))*p)=q33 buy p:=by
 cases buy
 ·rw[show(if(false:Bool)=true then(-1:Int)else 1)=1 from rfl,qq (x:=0-1) (by omega) (by omega),qq (by omega) (by omega)];show(0-1)*p=-p;omega
 ·rw[show(if(true:Bool)=true then(-1:Int)else 1)=-1 from rfl,qq (x:=0 - -1) (by omega) (by omega),qq (by omega) (by omega)];show(0 - -1)*p=p;omega
theorem qfh{buy:Bool}{p:Int}(h:-100000<=p/\p<=100000):-100000<=q33 buy p/\q33 buy p<=100000:=by
 unfold q33;cases buy
 ·show -100000≤-p/\-p<=100000;omega
 ·exact h
theorem qjv{n:Nat}{b:Bool}:evF EnA (n+1) 171 [.bool b]=some [iF (if b then -1 else 1)]:=by
 rw[qhk];cases b <;> rfl
structure QD where
 q:Rat
 d:Nat
def QD.ok(k:Nat)(s:QD):Prop:=dn s.d=s.q.den/\Bd k s.q
abbrev QD.L(s:QD)(rest:List FV):List FV:=zl s.q.num::zb s.q.num::nL s.d::.bool false::rest
theorem QD.ok.mono{k m:Nat}{s:QD}(h:s.ok k)(hm:k<=m):s.ok m:=⟨h.1,h.2.mono hm⟩
noncomputable def QD.add(s:QD)(v:Rat):QD:=⟨s.q+v,(s.q+v).den⟩
theorem QD.add_ok{k m:Nat}{s:QD}{v:Rat}(h:s.ok k)(hv:Bd m v):(s.add v).ok (k+m+1):=⟨qj _,h.2.add hv⟩
noncomputable def wS(ss:List StpV)(r:ResV)(s:QD)(i:Nat):QD:=match ss[i]? with
 |some x=>s.add (r.xAt i*((q33 x.buy x.qo:Int):Rat))
 |none=>s
noncomputable def wQ(b:BlkV)(s:QD)(q:Int):QD:=s.add ((q:Rat)*((q33 b.buy b.qo:Int):Rat))
noncomputable def wB(bs:List BlkV)(ac:List Bool)(s:QD)(i:Nat):QD:=match bs[i]?,ac[i]? with
 |some b,some true=>b.qty.foldl (wQ b) s
 |_,_=>s
theorem wS_q(l:List Nat):∀s:QD,(l.foldl (wS ss r) s).q=l.foldl (λn i=>match ss[i]? with | some s=>n+r.xAt i*((q33 s.buy s.qo:Int):Rat) | none=>n) s.q:=by
 induction l with
 |nil=>intro s;rfl
 |cons i l ih =>
  intro s;rw[List.foldl_cons,List.foldl_cons,ih];congr 1;unfold wS;cases ss[i]? <;> rfl
theorem wQ_q(b:BlkV)(l:List Int):∀s:QD,(l.foldl (wQ b) s).q=l.foldl (λ(n:Rat) (q:Int)=>n+(q:Rat)*((q33 b.buy b.qo:Int):Rat)) s.q:=by
 induction l with
 |nil=>intro s;rfl
 |cons q l ih=>intro s;rw[List.foldl_cons,List.foldl_cons,ih];rfl
theorem wB_q(l:List Nat):∀s:QD,(l.foldl (wB bs r.accept) s).q=l.foldl (λn i=>match bs[i]?,r.accept[i]? with
 |some b,some true=>b.qty.foldl (λ(n:Rat) (q:Int)=>n+(q:Rat)*((q33 b.buy b.qo:Int):Rat)) n
 |_,_=>n) s.q:=by
 induction l with
 |nil=>intro s;rfl
 |cons i l ih =>
  intro s;rw[List.foldl_cons,List.foldl_cons,ih];congr 1;unfold wB;split
  ·exact wQ_q _ _ _
  ·rfl
theorem qqv{n:Nat}(G:q1y g ss bs r)(hn:2000<=n):evF EnA n 119 [.list 7 (ss.map StpV.fv),.list 1 (r.x.map sF),.list 8 (bs.map BlkV.fv),.list 1 (r.accept.map .bool)]=some [sF (qx (welV ss bs r))]/\Bd 1000000 (welV ss bs r):=by
 obtain⟨n,rfl⟩:∃k,n=k+4:=⟨n-4,by omega⟩;obtain⟨z1,z2,z3,z4,z5,z6,z7,z8,z9⟩:=q6d (q6e G.sh.ord);obtain⟨o1,o2⟩:=qce G.sh.ord;have hst:=qew G.sh.ord;have hbl:=qex G.sh.ord;have la:=G.sh.ac;have lx:=G.sh.x;have bdw:∀ {buy:Bool} {p:Int},(-100000<=p/\p<=100000)->Bd 17 ((q33 buy p:Int):Rat):=fun {buy p} hp=>by
  have:=qfh (buy:=buy) hp;refine Bd.int ?_ (by omega);have:(2:Nat)^17=131072:=rfl;omega
 have bdq:∀ {q:Int},(0<=q/\q<=1000)->Bd 17 (q:Rat):=fun {q} hq=>by
  refine Bd.int ?_ (by omega);have:(2:Nat)^17=131072:=rfl;omega
 have hmin:min r.accept.length bs.length=bs.length:=by omega
 have e13:=qa1 (F:=λm i (s:QD)=>q1j.l13 (n+3) [] m (s.L [.list 8 (bs.map BlkV.fv),.list 1 (r.accept.map .bool),iF (r.accept.length:Int),iF (i:Int)])) (len:=bs.length) (g:=λi s=>wB bs r.accept s i) (fin:=λs=>some [sF (qx s.q)]) (I:=λi s=>s.ok (40000+36*3*i)) (λm i s hi hI=>by
  show q1j.l13 (n+3) [] (m+1) _=_;have hi2:i<r.accept.length:=by omega
  obtain⟨b1,b2,b3,b4,b5,b6⟩:=hbl _ (List.getElem_mem hi);have e18:=qa1 (F:=λm' k (s:QD)=>q1j.l18 (n+3) [m] m' (s.L [.str bs[i].who,iF bs[i].seq,iF bs[i].zone,.bool bs[i].buy,iF bs[i].qo,.list 1 (bs[i].qty.map iF),iF bs[i].parent,iF bs[i].group,.list 8 (bs.map BlkV.fv),.list 1 (r.accept.map .bool),iF (r.accept.length:Int),iF (i:Int),.list 1 (bs[i].qty.map iF),iF (bs[i].qty.length:Int),iF (k:Int)])) (len:=bs[i].qty.length)
   (g:=λk s=>wQ bs[i] s (bs[i].qty.getD k 0)) (fin:=λs=>q1j.l13 (n+3) [] m (s.L [.list 8 (bs.map BlkV.fv),.list 1 (r.accept.map .bool),iF (r.accept.length:Int),iF ((i+1:Nat):Int)])) (I:=λk s=>s.ok (40000+36*3*i+36*k)) (λm' k s hk hI=>by
    show q1j.l18 (n+3) [m] (m'+1) _=_;have hq:=b6 _ (List.getElem_mem hk);have hwb:=qfh (buy:=bs[i].buy) (p:=bs[i].qo) (by omega);have f1:=a_of (n:=n+2) (z:=bs[i].qty[k]) (by omega) (by omega);have f2:=a_of (n:=n+2) (z:=q33 bs[i].buy bs[i].qo) (by omega) (by omega);have f3:=a_mul (n:=n+2) (Sz.int (z:=bs[i].qty[k]) (by omega) (by omega)) (Sz.int (z:=q33 bs[i].buy bs[i].qo) (by omega) (by omega)) (qj _) (qj _);have f4:=a_add (n:=n+2) (hI.2.mono (by omega)) (((bdq hq).mul (bdw (buy:=bs[i].buy) (p:=bs[i].qo) (by omega))).mono (by omega)) hI.1 (qj _);rw[q1j.q8w,decide_eq_true (by omega),cond_true,List.length_map,qc hk];simp (disch:=omega) only[q71 hk,Option.bind_some,qb];rw[f1];simp (disch:=omega) only[Option.bind_some,List.getElem?_cons_zero,List.getElem?_cons_succ,q9,qa];rw[qjv];simp (disch:=omega) only[Option.bind_some,List.getElem?_cons_zero,qb];rw[qju (by omega),f2];simp (disch:=omega) only[Option.bind_some,List.getElem?_cons_zero,List.getElem?_cons_succ,q9,qa];rw[f3];simp (disch:=omega) only[Option.bind_some,List.getElem?_cons_zero,List.getElem?_cons_succ,q9,qa];rw[f4];simp (disch:=omega) only[Option.bind_some,List.getElem?_cons_zero,List.getElem?_cons_succ,q9,qa];rw[qi (by omega),getD_at _ _ hk];rfl) (λk s hk hI=>by
    have hq:=b6 _ (List.getElem_mem hk);rw[getD_at _ _ hk];exact(QD.add_ok hI ((bdq hq).mul (bdw (buy:=bs[i].buy) (p:=bs[i].qo) (by omega)))).mono (by omega)) (λm' s hI=>by
    show q1j.l18 (n+3) [m] (m'+1) _=_
    rw[q1j.q8w,decide_eq_false (by omega),cond_false,qi (by omega)]) bs[i].qty.length 0 (n+3) s (by omega) (by omega) hI
  have e18:=e18.1;have e18:q1j.l18 (n+3) [m] (n+3) (s.L [.str bs[i].who,iF bs[i].seq,iF bs[i].zone,.bool bs[i].buy,iF bs[i].qo,.list 1 (bs[i].qty.map iF),iF bs[i].parent,iF bs[i].group,.list 8 (bs.map BlkV.fv),.list 1 (r.accept.map .bool),iF (r.accept.length:Int),iF (i:Int),.list 1 (bs[i].qty.map iF),iF (bs[i].qty.length:Int),iF 0])=_:=e18;have ef:(List.range' 0 bs[i].qty.length).foldl (λs j=>wQ bs[i] s (bs[i].qty.getD j 0)) s=bs[i].qty.foldl (wQ bs[i]) s:=qjt (wQ bs[i]) 0 bs[i].qty 0 s;rw[ef]at e18;rw[q1j.qa0,decide_eq_true (by omega),cond_true,List.length_map,List.length_map,qc hi2,qc hi];simp (disch:=omega) only[q9l hi2,q3o hi,Option.bind_some,List.getElem?_cons_zero,List.getElem?_cons_succ,q9,qb,qa,qg];rw[List.length_map,e18,qi (by omega)];unfold wB;rw[List.getElem?_eq_getElem hi,List.getElem?_eq_getElem hi2];cases r.accept[i] <;> rfl) (λi s hi hI=>by
  have hi2:i<r.accept.length:=by omega
  obtain⟨b1,b2,b3,b4,b5,b6⟩:=hbl _ (List.getElem_mem hi);unfold wB;rw[List.getElem?_eq_getElem hi,List.getElem?_eq_getElem hi2];cases r.accept[i]with
  |false=>exact hI.mono (by omega)
  |true =>
   have gen:∀(l:List Int) (s:QD) (k:Nat),(∀q,q∈l->0<=q/\q<=1000)->s.ok k->(l.foldl (wQ bs[i]) s).ok (k+36*l.length):=by
    intro l
    induction l with
    |nil=>intro s k _ h;exact h.mono (by simp)
    |cons q l ih =>
     intro s k hl h;rw[List.foldl_cons];refine(ih _ (k+36) (λq hq=>hl q (List.mem_cons_of_mem _ hq)) ((QD.add_ok h ((bdq (hl q List.mem_cons_self)).mul (bdw (buy:=bs[i].buy) (p:=bs[i].qo) (by omega)))).mono (by omega))).mono ?_;simp only[List.length_cons];omega
   exact(gen bs[i].qty s _ b6 hI).mono (by omega)) (λm s hI=>by
  show q1j.l13 (n+3) [] (m+1) _=_;rw[q1j.qa0,decide_eq_false (by omega),cond_false,a_text (hI.2.mono (by omega)) hI.1]
  rfl)
 have e5:=qa1 (F:=λm i (s:QD)=>q1j.l5 (n+3) [] m (s.L [.list 1 (r.x.map sF),.list 8 (bs.map BlkV.fv),.list 1 (r.accept.map .bool),.list 7 (ss.map StpV.fv),iF (ss.length:Int),iF (i:Int)])) (len:=ss.length) (g:=λi s=>wS ss r s i) (fin:=λs=>q1j.l13 (n+3) [] (n+3) (s.L [.list 8 (bs.map BlkV.fv),.list 1 (r.accept.map .bool),iF (r.accept.length:Int),iF 0])) (I:=λi s=>s.ok (1+1100*i)) (λm i s hi hI=>by
  show q1j.l5 (n+3) [] (m+1) _=_;have hk:=hst _ (List.getElem_mem hi);obtain⟨x1,x2,x3⟩:=G.xT hi;have hwb:=qfh (buy:=ss[i].buy) (p:=ss[i].qo) (by omega);have hnum:=G.num.1 _ (List.getElem_mem x1);obtain⟨v,hv⟩:=Option.isSome_iff_exists.1 hnum;have hrv:rd r.x[i]=v:=rd_some hv;have bv:Bd 1024 v:=by rw[<- hrv];exact q42 x3
  have f2:=a_of (n:=n+2) (z:=q33 ss[i].buy ss[i].qo) (by omega) (by omega);have f3:=a_mul (n:=n+2) (q:=v) (bv.mono (by omega)) (Sz.int (z:=q33 ss[i].buy ss[i].qo) (by omega) (by omega)) (qj _) (qj _);have f4:=a_add (n:=n+2) (hI.2.mono (by omega)) ((bv.mul (bdw (buy:=ss[i].buy) (p:=ss[i].qo) (by omega))).mono (by omega)) hI.1 (qj _);rw[q1j.q1x,decide_eq_true (by omega),cond_true];simp only[List.length_map];rw[qc hi,qc x1];simp (disch:=omega) only[q4a hi,q7i x1,Option.bind_some,List.getElem?_cons_zero,List.getElem?_cons_succ,qb,qa,qg];rw[q9n hv (by omega)];simp (disch:=omega) only[Option.bind_some,List.getElem?_cons_zero,List.getElem?_cons_succ,q9,qb,qa];rw[qjv];simp (disch:=omega) only[Option.bind_some,List.getElem?_cons_zero,qb];rw[qju (by omega),f2];simp (disch:=omega) only[Option.bind_some,List.getElem?_cons_zero,List.getElem?_cons_succ,q9,qa];rw[f3];simp (disch:=omega) only[Option.bind_some,List.getElem?_cons_zero,List.getElem?_cons_succ,q9,qa];rw[f4];simp (disch:=omega) only[Option.bind_some,List.getElem?_cons_zero,List.getElem?_cons_succ,q9,qa];rw[qi (by omega)];unfold wS;rw[List.getElem?_eq_getElem hi,x2,hrv];rfl) (λi s hi hI=>by
  have hk:=hst _ (List.getElem_mem hi);obtain⟨x1,x2,x3⟩:=G.xT hi;unfold wS;rw[List.getElem?_eq_getElem hi];exact(QD.add_ok hI ((show Bd 1024 (r.xAt i) by rw[x2];exact q42 x3).mul (bdw (buy:=ss[i].buy) (p:=ss[i].qo) (by omega)))).mono (by omega)) (λm s hI=>by
  show q1j.l5 (n+3) [] (m+1) _=_;have hml:(if((bs.length:Nat):Int)<((r.accept.length:Nat):Int)then((bs.length:Nat):Int)else((r.accept.length:Nat):Int))=((r.accept.length:Nat):Int):=by split <;> omega
  rw[q1j.q1x,decide_eq_false (by omega),cond_false];simp only[List.length_map]
  rw[hml,q1p (Nat.le_refl _),Option.bind_some,List.drop_zero,List.take_of_length_le (by rw[List.length_map];exact Nat.le_refl _),List.length_map])
 obtain⟨q1,q2⟩:=e5 ss.length 0 (n+3) ⟨0,0⟩ (by omega) (by omega) ⟨rfl,qaz.mono (by omega)⟩;obtain⟨q3,q4⟩:=e13 bs.length 0 (n+3) _ (by omega) (by omega) (q2.mono (by omega));have hw:((List.range' 0 bs.length).foldl (λs j=>wB bs r.accept s j) ((List.range' 0 ss.length).foldl (λs j=>wS ss r s j) ⟨0,0⟩)).q=welV ss bs r:=by
  rw[wB_q,wS_q];unfold welV welB welS;rw[hmin];rfl
 refine⟨?_,?_⟩
 ·rw[qne,List.length_map,List.length_map,nne,decide_eq_true lx,Bool.not_true,cond_false];refine Eq.trans ?_ ((q1.trans q3).trans (by rw[hw]));simp only[QD.L];rw[show zl (0:Rat).num=FV.list 1 [] from q2u,show nL 0=FV.list 1 [] from q2u];rfl
 ·rw[<- hw];exact q4.2.mono (by omega)
theorem worth_run{n:Nat}(G:q1y g ss bs r)(hn:3000<=n):evF EnA n 52 (T1 g ss bs r [])=some (T1 g ss bs r [.bool (q8t ss bs r)]):=by
 obtain⟨n,rfl⟩:∃k,n=k+2:=⟨n-2,by omega⟩;rw[qn7,(qqv (n:=n+1) G (by omega)).1];simp (disch:=omega) only[Option.bind_some,List.getElem?_cons_zero,qg];rw[q2z];rfl
theorem qjw{t:Txt}(h:isNum t=true):qx (rd t)=t:=by
 obtain⟨v,hv⟩:=Option.isSome_iff_exists.1 h;rw[rd_some hv];exact(q4z.1 hv).symm
theorem rd_inj{a b:Txt}(ha:isNum a=true)(hb:isNum b=true):rd a=rd b↔a=b:=⟨λh=>by rw[<- qjw ha,h,qjw hb],λh=>by rw[h]⟩
theorem upped_run{n:Nat}(G:q1y g ss bs r)(hn:10<=n):evF EnA n 53 (T1 g ss bs r [])=some (T1 g ss bs r [.bool (upV r)]):=by
 obtain⟨n,rfl⟩:∃k,n=k+2:=⟨n-2,by omega⟩;obtain⟨_,nw,nu,_⟩:=G.num;rw[qn8,q4u (q34 G.sm.u) (q34 G.sm.w) (qj _) (qj _)];simp (disch:=omega) only[Option.bind_some,List.getElem?_cons_zero,qb];rw[cmpQ_ge];have hz:(cmpQ (rd r.upper) (rd r.q1g)==0)=decide (r.upper=r.q1g):=by
  rw[Bool.eq_iff_iff,beq_iff_eq,decide_eq_true_eq,<- rd_inj nu nw];exact cmp_eq
 rw[hz];unfold upV;by_cases hO:r.q8c=true
 ·rw[show(!r.q8c)=false by rw[hO];rfl];cases decide (rd r.q1g<=rd r.upper) <;> rfl
 ·rw[show(!r.q8c)=true by rw[Bool.eq_false_iff.2 hO];rfl];cases decide (rd r.q1g<=rd r.upper) <;> rfl
end
end Rf
end
