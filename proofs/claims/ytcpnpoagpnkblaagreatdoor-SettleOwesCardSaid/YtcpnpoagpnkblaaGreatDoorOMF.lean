/- Texts of this work put together, their blanks and comments taken out: Rf28, Rf29. -/
import Derived.Test.YtcpnpoagpnkblaaGreatDoorOME
import Derived.Eval
import Derived.SizedLaws
import GoSem.ClaimChange
import Derived.Carry
import Derived.WideShapes
set_option linter.unusedVariables false
set_option linter.unusedSimpArgs false
section
section
/- Tables under numbers. -/
namespace Rf
open Go
theorem q9a{α:Type}{t:Nat}{x:α}:∀ {l:List (Nat×α)},lookN t l=some x->(t,x)∈l
 |[],h=>by simp[lookN]at h
 |(k,y)::r,h=>by
  unfold lookN at h;cases hb:Nat.beq k t with
  |true =>
   rw[hb]at h;cases h;have:=Aw hb;subst this;exact AF
  |false=>rw[hb]at h;exact AA _ (q9a h)
theorem qcz{P:Program}{l:List (Nat×TyI)}(h:l.all (λp=>chkTy P p.1 p.2)=true){t:Nat}{i:TyI}(ht:lookN t l=some i):chkTy P t i=true :=
 Au.1 h _ (q9a ht)
def FcOk(P:Program):List (Nat×Func)->Prop
 |[]=>True
 |(f,fn)::r=>(P.funcs[vb f]?=some fn/\(fn.name == "runtime.NumGoroutine")=false)/\FcOk P r
theorem qm5{P:Program}:∀ {l:List (Nat×Func)},FcOk P l->∀p,p∈l->P.funcs[vb p.1]?=some p.2/\(p.2.name == "runtime.NumGoroutine")=false
 |[],_,p,hp=>by simp at hp
 |(f,fn)::r,h,p,hp=>by
  rcases Ar.1 hp with rfl | hp
  ·exact h.1
  ·exact qm5 h.2 p hp
theorem qd2{P:Program}{l:List (Nat×Func)}(h:FcOk P l){f:Nat}{fn:Func}(hf:lookN f l=some fn):P.funcs[vb f]?=some fn/\(fn.name == "runtime.NumGoroutine")=false :=
 qm5 h _ (q9a hf)
end Rf
end
section
namespace Rf
open Go
inductive Shp where
 |int (k:IntKind)
 |bool
 |str
 |lst (agg:Bool) (bytes:Nat) (es:List Shp)
def mkEl(agg:Bool)(cs:List FV):FV:=match agg,cs with
 |false,[c]=>c
 |_,cs=>.agg cs
inductive Fits:Shp->FV->Prop
 |int {k:IntKind} {n:Int} (h1:k.min<=n) (h2:n<=k.max):Fits (.int k) (.int k n)
 |bool (b:Bool):Fits .bool (.bool b)
 |str {s:ByteArray} (h:s.size<=140737488351232):Fits .str (.str s)
 |lst {agg:Bool} {bytes:Nat} {es:List Shp} {css:List (List FV)} (hl:css.length*bytes<=140737488351232) (hlen:∀cs,cs∈css->cs.length=es.length)
   (h:∀(i j:Nat) (cs:List FV) (s:Shp) (c:FV),css[i]?=some cs->es[j]?=some s->cs[j]?=some c->Fits s c):Fits (.lst agg bytes es) (.list es.length (css.map (mkEl agg)))
theorem Fits.flat{s:Shp}{x:FV}(h:Fits s x):x.flat=true:=by cases h <;> rfl
theorem qu3{agg:Bool}{cs:List FV}(h:agg=false->cs.length=1)(hf:∀c,c∈cs->c.flat=true):(mkEl agg cs).cells=cs:=by
 cases agg with
 |true=>cases cs <;> rfl
 |false =>
  match cs,h rfl with
  |[c],_ =>
   have:=hf c (by simp);cases c <;> first | rfl | simp[FV.flat]at this
def fldsOf(sh:TypeId->Option (Bool×List Shp)):List (Nat×Nat)->Nat->Option (List Shp)
 |[],_=>some []
 |(off,ft)::r,p=>match sh ft with
  |some (_,ss)=>bif Nat.beq off p then(match fldsOf sh r (p+ss.length)with | some rs=>some (ss++rs) | none=>none)else none
  |none=>none
def shpOf(ty:Nat->Option TyI):Nat->TypeId->Option (Bool×List Shp)
 |0,_=>none
 |n+1,t=>match ty t with
  |none=>none
  |some i=>match i.agg,i.ck with
   |true,_=>bif i.flds.isEmpty then none else match fldsOf (shpOf ty n) i.flds 0 with
    |some ss=>bif Nat.beq ss.length i.size then some (true,ss)else none
    |none=>none
   |false,[.int k]=>some (false,[.int k])
   |false,[.bool]=>some (false,[.bool])
   |false,[.str]=>some (false,[.str])
   |false,[.lst sz]=>match shpOf ty n i.elem,ty i.elem with
    |some (ag,es),some ei=>bif Nat.beq es.length sz&&Nat.ble 1 sz then some (false,[.lst ag ei.bytes es])else none
    |_,_=>none
   |false,_=>none
theorem q84{α:Type}{b:Bool}{x:Option α}{y:α}(h:(bif b then x else none)=some y):b=true/\x=some y:=by
 cases b
 ·cases h
 ·exact⟨rfl,h⟩
theorem bif_some'{α:Type}{b:Bool}{x:Option α}{y:α}(h:(bif b then none else x)=some y):b=false/\x=some y:=by
 cases b
 ·exact⟨rfl,h⟩
 ·cases h
theorem shpOf_len{ty:Nat->Option TyI}{n:Nat}{t:TypeId}{ss:List Shp}(h:shpOf ty n t=some (false,ss)):ss.length=1:=by
 cases n with
 |zero=>simp[shpOf]at h
 |succ n =>
  unfold shpOf at h;split at h
  ·cases h
  ·split at h
   ·obtain⟨_,h⟩:=bif_some' h;split at h
    ·obtain⟨_,h⟩:=q84 h;cases h
    ·cases h
   ·cases h;rfl
   ·cases h;rfl
   ·cases h;rfl
   ·split at h
    ·obtain⟨_,h⟩:=q84 h;cases h;rfl
    ·cases h
   ·cases h
section
variable {E:Env} {H:Type} {enc:TypeId×Value->H} {W:World} {sp:Nat->Bool} {held:Bool}
def Old(W:World):Nat->Prop:=λb=>b<W.heap.size
theorem qm6{w:World}{a:Addr}{n:Nat}{cs:List Value}(h:w.cells? 0 a n=some cs):cs.length=n/\∀i,i<n->w.cell? (a.add i)=cs[i]?:=by
 unfold World.cells? at h;rw[if_pos (BP _)]at h;have key:∀(l:List Nat) (cs:List Value),l.mapM (λi=>w.cell? (a.add i))=some cs->cs.length=l.length/\∀(j i:Nat),l[j]?=some i->w.cell? (a.add i)=cs[j]?:=by
  intro l
  induction l with
  |nil=>intro cs h;simp at h;subst h;exact⟨rfl,λj i h=>by simp at h⟩
  |cons x l ih =>
   intro cs h;simp only[EA,Option.bind_eq_bind,CD,Option.pure_def,AH]at h;obtain⟨v,h1,vs,h2,rfl⟩:=h;obtain⟨q1,q2⟩:=ih vs h2;refine⟨by simp[q1],λj i hj=>?_⟩;cases j with
   |zero=>simp at hj;subst hj;simpa using h1
   |succ j=>simpa using q2 j i (by simpa using hj)
 obtain⟨k1,k2⟩:=key _ _ h;exact⟨by simpa using k1,λi hi=>k2 i i (by simp[hi])⟩
theorem qek{t:TypeId}{i:TyI}{inf:TypeInfo}{d:TypeDesc}{z:Value}(hT:TyOk E.P t i inf d z)(ht:E.ty t=some i){n:Nat}{ag:Bool}{ss:List Shp}(h:shpOf E.ty n t=some (ag,ss)):ss.length=i.size/\ag=i.agg/\E.P.cellsOf t=i.size/\E.P.bytesOf t=i.bytes:=by
 have h0:E.P.cellsOf t=i.size/\E.P.bytesOf t=i.bytes:=by
  simp[Program.cellsOf,Program.bytesOf,hT.info,hT.size,hT.bytes]
 refine⟨?_,?_,h0⟩
 ·cases n with
  |zero=>simp[shpOf]at h
  |succ n =>
   have hs:=h;unfold shpOf at h;rw[ht]at h;simp only at h;split at h
   ·obtain⟨_,h⟩:=bif_some' h;split at h
    ·obtain⟨h1,h⟩:=q84 h;cases h;exact Aw h1
    ·cases h
   all_goals first | (simp at h;done) | skip
   all_goals (rename_i ha hk;have:=hT.len;rw[hk]at this;simp at this)
   ·cases h;simpa using this
   ·cases h;simpa using this
   ·cases h;simpa using this
   ·split at h
    ·obtain⟨_,h⟩:=q84 h;cases h;simpa using this
    ·cases h
 ·cases n with
  |zero=>simp[shpOf]at h
  |succ n =>
   unfold shpOf at h;rw[ht]at h;simp only at h;split at h
   ·rename_i _ ha;obtain⟨_,h⟩:=bif_some' h;split at h
    ·obtain⟨h1,h⟩:=q84 h;cases h;exact ha.symm
    ·cases h
   ·rename_i ha _;cases h;exact ha.symm
   ·rename_i ha _;cases h;exact ha.symm
   ·rename_i ha _;cases h;exact ha.symm
   ·rename_i ha _;split at h
    ·obtain⟨_,h⟩:=q84 h;cases h;exact ha.symm
    ·cases h
   ·cases h
theorem qhm{n:Nat}{t:TypeId}{x:Bool×List Shp}(h:shpOf E.ty n t=some x):∃i,E.ty t=some i:=by
 cases n with
 |zero=>simp[shpOf]at h
 |succ n =>
  unfold shpOf at h;cases hi:E.ty t with
  |none=>rw[hi]at h;cases h
  |some i=>exact⟨i,rfl⟩
def ReadsAs(E:Env)(W:World)(enc:TypeId×Value->H)(sp:Nat->Bool)(held:Bool)(t:TypeId)(ss:List Shp):Prop :=
 ∀(fuel:Nat) (cs:List Value) (d:DataW H) (p:List MemPlace),DataW.trod enc E.P W 0 sp held fuel t cs=some (d,p)->(d.weights E.P t).all (·≤reachBytes)=true->∃fs,All2 Fits ss fs/\All2 (FRep W (Old W)) fs cs
theorem qm7{n fuel:Nat}(hE:q15 E)(ih:∀(t:TypeId) (ag:Bool) (ss:List Shp),shpOf E.ty n t=some (ag,ss)->ReadsAs E W enc sp held t ss){cs:List Value} :
  ∀ {fs:List Field} {q:Nat} {ss:List Shp} {xs:List (DataW H×List MemPlace)},fldsOf (shpOf E.ty n) (fs.map λf=>(f.offset,f.type)) q=some ss ->
   fs.mapM (λf=>DataW.trod enc E.P W 0 sp held fuel f.type ((cs.drop f.offset).take (E.P.cellsOf f.type)))=some xs->(DataW.weightsEach E.P (fs.map (·.type)) (xs.map (·.1))).all (·≤reachBytes)=true->q+ss.length=cs.length ->
   ∃fv,All2 Fits ss fv/\All2 (FRep W (Old W)) fv (cs.drop q)
 |[],q,ss,xs,h,hm,_,hq=>by
  simp only[BE,fldsOf,AH]at h;subst h;rw[Ft (by simp at hq;omega)];exact⟨[],.nil,.nil⟩
 |f::fs,q,ss,xs,h,hm,hw,hq=>by
  simp only[AQ,fldsOf]at h;split at h
  ·rename_i ag ss1 hsh;obtain⟨hb,h⟩:=q84 h;have hoff:=Aw hb;split at h
   ·rename_i rs hr;cases h;simp only[EA,Option.bind_eq_bind,CD,Option.pure_def,AH]at hm;obtain⟨x,hx,ys,hys,rfl⟩:=hm;obtain⟨i,hi⟩:=qhm hsh;obtain⟨inf,dd,z,hT⟩:=q8q (hE.ty _ _ hi);obtain⟨s1,_,s2,_⟩:=qek hT hi hsh;simp only[AQ,DataW.weightsEach,DB,Ai]at hw;obtain⟨fv1,a1,a2⟩:=ih _ _ _ hsh fuel _ x.1 x.2 hx hw.1;rw[Bb]at hq;obtain⟨fv2,b1,b2⟩:=qm7 hE ih hr hys hw.2 (by omega);refine⟨fv1++fv2,a1.app b1,?_⟩;have:cs.drop q=((cs.drop f.offset).take (E.P.cellsOf f.type))++cs.drop (q+ss1.length):=by
     rw[hoff,s2,<- s1,<- List.drop_drop];exact(BW _ _).symm
    rw[this];exact a2.app b2
   ·cases h
  ·cases h
theorem kind_wf{k:IntKind}{n:Int}(h:(Lit.int k n).wf=true):k.min<=n/\n<=k.max:=by
 simpa[Lit.wf]using h
theorem qu4{t:TypeId}{l:List (DataW H)}(h:(DataW.weightsAll E.P t l).all (·≤reachBytes)=true):∀d,d∈l->(d.weights E.P t).all (·≤reachBytes)=true:=by
 induction l with
 |nil=>intro d hd;simp at hd
 |cons x l ih =>
  intro d hd;simp only[DataW.weightsAll,DB,Ai]at h;rcases Ar.1 hd with rfl | hd
  ·exact h.1
  ·exact ih h.2 d hd
theorem qm8{α:Type}(R:Nat->α->Prop):∀n:Nat,(∀i,i<n->∃x,R i x)->∃l:List α,l.length=n/\∀i x,l[i]?=some x->R i x
 |0,_=>⟨[],rfl,λi x h=>by simp at h⟩
 |n+1,h=>by
  obtain⟨l,h1,h2⟩:=qm8 R n λi hi=>h i (by omega);obtain⟨x,hx⟩:=h n (by omega);refine⟨l++[x],by simp[h1],λi y hy=>?_⟩;rw[Cq]at hy;split at hy
  ·exact h2 i y hy
  ·have hlt:=(Ao.1 hy).1;simp at hlt;have:i=n:=by omega
   subst this;rw[h1,Cn]at hy;simp at hy;subst hy;exact hx
theorem qm9{w:World}{a:Addr}{v:Value}(h:w.cell? a=some v):a=⟨a.block,a.off,none⟩:=by
 obtain⟨b,o,s⟩:=a;unfold World.cell? at h;split at h
 ·cases s with
  |none=>rfl
  |some _=>simp at h
 ·cases h
theorem qu5{w:World}{a:Addr}{v:Value}(h:w.cell? a=some v):a.block<w.heap.size:=by
 unfold World.cell? at h;split at h
 ·rename_i c _ _ hb;exact(Fc.1 hb).1
 ·cases h
theorem slice_rep{sz:Nat}{ag:Bool}{bytes:Nat}{es:List Shp}{a:Addr}{len cap:Nat}(hes:es.length=sz)(hsz:1<=sz)(hag:ag=false->es.length=1)(hlc:len<=cap)(hb:len*bytes<=140737488351232)
  (hel:∀i,i<len->∃fs cs,W.cells? 0 (a.add (i*sz)) sz=some cs/\All2 Fits es fs/\All2 (FRep W (Old W)) fs cs) :
  ∃x,Fits (.lst ag bytes es) x/\FRep W (Old W) x (.slice (some a) len cap):=by
 obtain⟨css,h1,h2⟩:=qm8 (λi fs=>∃cs,W.cells? 0 (a.add (i*sz)) sz=some cs/\All2 Fits es fs/\All2 (FRep W (Old W)) fs cs) len hel;have hlen:∀fs,fs∈css->fs.length=es.length:=λfs hf=>by
  obtain⟨i,hi⟩:=Bt.1 hf;obtain⟨cs,_,q,_⟩:=h2 i fs hi;exact q.len.symm
 have hcell:∀fs,fs∈css->(mkEl ag fs).cells=fs:=λfs hf=>by
  obtain⟨i,hi⟩:=Bt.1 hf;obtain⟨cs,_,q,_⟩:=h2 i fs hi;refine qu3 (λh=>by rw[hlen fs hf,hag h]) λc hc=>?_;obtain⟨j,hj⟩:=Bt.1 hc;obtain⟨s,_,hs⟩:=q.getR' j c hj;exact hs.flat
 refine⟨.list es.length (css.map (mkEl ag)),.lst (by rw[h1];exact hb) hlen λi j cs s c q1 q2 q3=>?_,?_⟩
 ·obtain⟨vs,_,q,_⟩:=h2 i cs q1;obtain⟨c',r1,r2⟩:=q.get j s q2;rw[q3]at r1;cases r1;exact r2
 ·rw[FRep.q38];have first:css≠[]->∃v,W.cell? a=some v:=λhne=>by
   obtain⟨fs,hf⟩:∃fs,css[0]?=some fs:=by
    cases css with
    |nil=>exact absurd rfl hne
    |cons x _=>exact⟨x,rfl⟩
   obtain⟨cs,q1,q2,q3⟩:=h2 0 fs hf;obtain⟨r1,r2⟩:=qm6 q1;have:=r2 0 (by omega);rw[Do]at this;have hadd:(a.add 0).add 0=a:=by simp[Addr.add]
   rw[hadd]at this;exact⟨cs[0],by rw[this,Ag (by omega)]⟩
  refine⟨some a,cap,a.block,a.off,by rw[Aa,h1],by rw[Aa,h1];exact hlc,λhne=>?_,λx hx=>?_,λi j x c q1 q2=>?_⟩
  ·have hne':css≠[]:=λh=>hne (by rw[h];rfl);obtain⟨v,hv⟩:=first hne'
   exact⟨by rw[qm9 hv],qu5 hv⟩
  ·obtain⟨fs,hf,rfl⟩:=BD.1 hx;rw[El,hcell fs hf];refine⟨hlen fs hf,λc hc=>?_⟩;obtain⟨i,hi⟩:=Bt.1 hf;obtain⟨cs,_,q,_⟩:=h2 i fs hi;obtain⟨j,hj⟩:=Bt.1 hc;obtain⟨s,_,hs⟩:=q.getR' j c hj;exact hs.flat
  ·rw[Bq]at q1;obtain⟨fs,hf,rfl⟩:=BX.1 q1;rw[hcell fs (AS hf)]at q2;obtain⟨cs,r1,r2,r3⟩:=h2 i fs hf;obtain⟨t1,t2⟩:=qm6 r1;obtain⟨v,u1,u2⟩:=r3.get j c q2;have hj:j<sz:=by rw[<- t1];exact(Ao.1 u1).1
   have:=t2 j hj;rw[u1]at this;have hne:css≠[]:=by rintro rfl;simp at hf
   obtain⟨v0,hv0⟩:=first hne
   have ha:=qm9 hv0;refine⟨v,?_,u2⟩;rw[<- this];unfold cellAt;rw[ha];congr 1;rw[q5d,q5d,hes,Bl]
theorem qma(hE:q15 E):∀(n:Nat) (t:TypeId) (ag:Bool) (ss:List Shp),shpOf E.ty n t=some (ag,ss)->ReadsAs E W enc sp held t ss
 |0,t,ag,ss,h=>by simp[shpOf]at h
 |n+1,t,ag,ss,h=>by
  intro fuel cs d p hd hw;have ih:=qma hE n;obtain⟨i,hi⟩:=qhm h;obtain⟨inf,dd,z,hT⟩:=q8q (hE.ty _ _ hi);obtain⟨s1,s2,s3,s4⟩:=qek hT hi h;have hu:=hT.und;unfold shpOf at h;rw[hi]at h;simp only at h;have hdesc:=hT.desc;split at h
  ·rename_i _ ha;obtain⟨he,h⟩:=bif_some' h;split at h
   ·rename_i ss' hf;obtain⟨hb,h⟩:=q84 h;cases h;cases dd <;> simp only[descOk,ha,he,Am,Ck,CF,Br]at hdesc;rename_i fs;simp only[AB,Bu]at hdesc;cases fuel with
    |zero=>simp[DataW.trod]at hd
    |succ fuel =>
     unfold DataW.trod at hd;rw[hu]at hd;simp only at hd;split at hd
     ·rename_i hcl;simp only[BX]at hd;obtain⟨xs,hxs,hx⟩:=hd;simp only[Bv]at hx;obtain⟨rfl,rfl⟩:=hx;simp only[DataW.weights,hu]at hw;rw[<- hdesc]at hf;obtain⟨fv,q1,q2⟩:=qm7 hE ih hf hxs hw (by rw[hcl,s3,AJ];exact s1);exact⟨fv,q1,by simpa using q2⟩
     ·cases hd
   ·cases h
  ·rename_i k ha hk;cases h;have:dd=.int k:=by
    have h1:=hT.scalar ha;rw[hk]at h1;unfold ck1 at h1;split at h1 <;> first | (simp at h1;done) | (rename_i q;cases q;done) | (rename_i q;cases q;rw[q7c.1 h1])
   subst this;obtain⟨m,rfl,hx,hwf⟩:=DataW.trod_int hu hd;obtain⟨w1,w2⟩:=kind_wf hwf;exact⟨[.int k m],.cons (.int w1 w2) .nil,.cons (.int _ _) .nil⟩
  ·rename_i ha hk;cases h;have:dd=.bool:=by
    have h1:=hT.scalar ha;rw[hk]at h1;unfold ck1 at h1;split at h1 <;> first | (simp at h1;done) | rfl | (rename_i q;cases q)
   subst this;obtain⟨m,rfl,hx⟩:=DataW.trod_bool hu hd;exact⟨[.bool m],.cons (.bool _) .nil,.cons (.bool _) .nil⟩
  ·rename_i ha hk;cases h;have:dd=.string:=by
    have h1:=hT.scalar ha;rw[hk]at h1;unfold ck1 at h1;split at h1 <;> first | (simp at h1;done) | rfl | (rename_i q;cases q)
   subst this;obtain⟨m,rfl,hx,hsz⟩:=DataW.trod_string hu hd;refine⟨[.str m],.cons (.str ?_) .nil,.cons (.str _) .nil⟩;simp only[Bv]at hx;obtain⟨rfl,_⟩:=hx;simp only[DataW.weights,Bk,EM,CH,As]at hw;simpa[reachBytes]using hw
  ·rename_i sz ha hk;split at h
   ·rename_i ag' es ei hsh hei;obtain⟨hb,h⟩:=q84 h;cases h;simp only[Ai]at hb;have e1:=Aw hb.1;have e2:=Bz hb.2;have hdd:=hT.isSlice hk ha;subst hdd;obtain⟨inf',dd',z',hT'⟩:=q8q (hE.ty _ _ hei);obtain⟨t1,t2,t3,t4⟩:=qek hT' hei hsh;rcases DataW.trod_slice hu hd with⟨rfl,hx⟩ | ⟨a,len,cap,elems,rest,m,hfuel,rfl,hx,_,hlc,hcm,hlen,hel,_,_⟩
    ·refine⟨[.list es.length []],.cons ?_ .nil,.cons qam .nil⟩;have:=Fits.lst (agg:=ag') (bytes:=ei.bytes) (es:=es) (css:=[]) (by simp) (by simp) (by simp);simpa using this
    ·simp only[Bv]at hx;obtain⟨rfl,_⟩:=hx;simp only[DataW.weights,hu,Bk,Ai,As,Aa,DB]at hw;have hwa:=qu4 hw.2.1;have hbl:len*ei.bytes<=140737488351232:=by
      have h3:=hw.1;rw[t4,hlen]at h3;have:len*ei.bytes<=(len+rest.length)*ei.bytes:=AR _ (by omega);have h4:reachBytes=140737488351232:=rfl;omega
     obtain⟨x,x1,x2⟩:=slice_rep (W:=W) (sz:=sz) (ag:=ag') (bytes:=ei.bytes) (es:=es) (a:=a) (len:=len) (cap:=cap) e1 e2 (λh=>by subst h;exact shpOf_len hsh) hlc hbl (λi hi'=>by
      have h5:=hel i hi';have hi2:i<elems.length:=by omega
      rw[Ag hi2]at h5;obtain⟨cs,c1,c2⟩:=CD.1 h5;obtain⟨fs,f1,f2⟩:=ih _ _ _ hsh m cs elems[i].1 elems[i].2 c2 (hwa _ (BD.2 ⟨elems[i],Ah hi2,rfl⟩))
      exact⟨fs,cs,by rw[t3,<- t1,e1]at c1;exact c1,f1,f2⟩)
     exact⟨[x],.cons x1 .nil,.cons x2 .nil⟩
   ·cases h
  ·cases h
end
end Rf
end
section
namespace Rf
open Go Go.RowKit
def tokOf:Shp->Tok
 |.int k=>.int k
 |.bool=>.bool
 |.str=>.str
 |.lst _ _ es=>.lst es.length
def toksOf(x:Bool×List Shp):List Tok:=bif x.1 then .agg x.2.length::x.2.map tokOf else x.2.map tokOf
def shpsOf(ty:Nat->Option TyI)(n:Nat):List TypeId->Option (List Shp×List Tok)
 |[]=>some ([],[])
 |t::ts=>match shpOf ty n t,shpsOf ty n ts with
  |some x,some (ss,T)=>some (x.2++ss,toksOf x++T)
  |_,_=>none
section
variable {E:Env} {H:Type} {enc:TypeId×Value->H} {W:World}
theorem leaf_tok{s:Shp}{x:FV}(h:Fits s x):leafT (tokOf s) x:=by
 cases h with
 |int _ _=>rfl
 |bool _=>trivial
 |str _=>trivial
 |lst _ _ _=>rfl
theorem qhn{S:Nat->Prop}:∀ {ss:List Shp} {fs:List FV} {cs:List Value},All2 Fits ss fs->All2 (FRep W S) fs cs->∀ {T:List Tok} {V:List Value} {L:List FV} {acc fin:GA},TRep W S T V L acc fin ->
  TRep W S (ss.map tokOf++T) (cs++V) (fs++L) acc fin
 |_,_,_,.nil,.nil,T,V,L,acc,fin,h=>h
 |_,_,_,.cons (x:=s) (y:=x) hf tf,.cons (y:=v) hr tr,T,V,L,acc,fin,h=>by
  have ih:=qhn tf tr h;have hl:=leaf_tok hf;cases hf with
  |int h1 h2=>exact⟨v,_,_,_,rfl,rfl,hl,hr,ih⟩
  |bool b=>exact⟨v,_,_,_,rfl,rfl,hl,hr,ih⟩
  |str h1=>exact⟨v,_,_,_,rfl,rfl,hl,hr,ih⟩
  |lst h1 h2 h3=>exact⟨v,_,_,_,rfl,rfl,hl,hr,ih⟩
theorem arg_rep(hE:q15 E){n:Nat}{t:TypeId}{x:Bool×List Shp}(hx:shpOf E.ty n t=some x){base:Nat}{sp:Nat->Bool}{held:Bool}{v:Value}{d:DataW H}{p:List MemPlace}(hd:DataW.Trod enc E.P W 0 sp held t v d p)(hv:Value.okWide E.P W .any base t v)
  (hw:(d.weights E.P t).all (·≤reachBytes)=true) :
  ∃fs,All2 Fits x.2 fs/\∀ {T:List Tok} {V:List Value} {L:List FV} {acc fin:GA},TRep W (Old W) T V L acc fin->TRep W (Old W) (toksOf x++T) (v::V) (fs++L) acc fin:=by
 obtain⟨ag,ss⟩:=x;obtain⟨fuel,hf⟩:=hd;obtain⟨fs,h1,h2⟩:=qma hE n t ag ss hx fuel _ d p hf hw;refine⟨fs,h1,λhT=>?_⟩;obtain⟨i,hi⟩:=qhm hx;obtain⟨inf,dd,z,hTy⟩:=q8q (hE.ty _ _ hi);obtain⟨s1,s2,_,_⟩:=qek hTy hi hx;cases n with
 |zero=>simp[shpOf]at hx
 |succ n =>
  have hdesc:=hTy.desc;cases ag with
  |true =>
   have hagg:∃cs,v=.agg cs:=by
    cases dd <;> simp only[descOk,<- s2,Am,Ck,Br]at hdesc
    ·unfold Value.okWide at hv;rw[hTy.und]at hv;obtain⟨cs,h,_⟩:=hv;exact⟨cs,h⟩
    ·unfold Value.okWide at hv;rw[hTy.und]at hv;obtain⟨cs,h,_⟩:=hv;exact⟨cs,h⟩
   obtain⟨cs,rfl⟩:=hagg;simp only[Value.cells]at h2;have e1:ss.length=fs.length:=h1.len;have e2:fs.length=cs.size:=by have:=h2.len;simpa using this
   exact⟨cs,_,rfl,by rw[<- e2,<- e1],qhn h1 h2 hT⟩
  |false =>
   have hone:v.cells=#[v]:=by
    have hsc:=hTy.scalar s2.symm;unfold shpOf at hx;rw[hi]at hx;simp only at hx;split at hx
    ·rename_i _ ha;rw[<- s2]at ha;cases ha
    all_goals first | (cases hx;done) | skip
    all_goals (rename_i hk;rw[hk]at hsc;unfold ck1 at hsc;split at hsc <;> first | (simp at hsc;done) | (rename_i q;cases q;done) | skip)
    ·obtain⟨m,rfl⟩:=WideShapes.okWide_int hTy.und hv;rfl
    ·obtain⟨m,rfl⟩:=WideShapes.okWide_bool hTy.und hv;rfl
    ·obtain⟨m,rfl⟩:=WideShapes.okWide_string hTy.und hv;rfl
    ·obtain⟨a,l,c,rfl⟩:=WideShapes.okWide_slice hTy.und hv;rfl
   rw[hone]at h2;exact qhn h1 h2 hT
theorem qmb(hE:q15 E){n base:Nat}{sp:Nat->Bool}{held:Bool}:∀ {ts:List TypeId} {ss:List Shp} {T:List Tok},shpsOf E.ty n ts=some (ss,T)->∀ {vs:List Value} {ds:List (DataW H)} {p:List MemPlace},
  DataW.TrodAll enc E.P W 0 sp held ts vs ds p->(∀(j:Nat) t v,ts[j]?=some t->vs[j]?=some v->Value.okWide E.P W .any base t v)->(DataW.weightsEach E.P ts ds).all (·≤reachBytes)=true ->
  ∃L,All2 Fits ss L/\TRep W (Old W) T vs L [] []
 |[],ss,T,h,vs,ds,p,hA,_,_=>by
  simp only[shpsOf,AH,Bv]at h;obtain⟨rfl,rfl⟩:=h;cases vs <;> cases ds <;> simp only[DataW.TrodAll]at hA;exact⟨[],.nil,rfl,rfl,rfl⟩
 |t::ts,ss,T,h,vs,ds,p,hA,hv,hw=>by
  unfold shpsOf at h;split at h
  ·rename_i x ss' T' hx hs;cases h;cases vs <;> cases ds <;> simp only[DataW.TrodAll]at hA;rename_i v vs d ds;obtain⟨p1,p2,h1,h2,_⟩:=hA;simp only[DataW.weightsEach,DB,Ai]at hw;obtain⟨L,l1,l2⟩:=qmb hE hs h2 (λj t v q1 q2=>hv (j+1) t v (by simpa using q1) (by simpa using q2)) hw.2;obtain⟨fs,f1,f2⟩:=arg_rep hE hx h1 (hv 0 t v rfl rfl) hw.1;exact⟨fs++L,f1.app l1,f2 l2⟩
  ·cases h
theorem qmc{S:Nat->Prop}:∀ {n:Nat} {V R:List Value} {L:List FV} {fin:GA},V.length=n->TRep W S (List.replicate n .skip++[.bool]) (V++R) L [] fin->L=[.bool true]->R=[.bool true]
 |0,V,R,L,fin,hV,h,hL=>by
  have:V=[]:=Dk.1 hV;subst this;subst hL;obtain⟨v,V',x,L',h1,h2,h3,h4,h5⟩:=h;cases h2;cases h4;obtain⟨rfl,_,_⟩:=h5;simpa using h1
 |n+1,V,R,L,fin,hV,h,hL=>by
  cases V with
  |nil=>simp at hV
  |cons v V =>
   obtain⟨v',V',h1,h2⟩:=h;simp only[Al,Ba]at h1;obtain⟨_,rfl⟩:=h1;exact qmc (by simpa using hV) h2 hL
theorem law_calls(hE:q15 E)(hX:q6k E){f:FuncId}{i:FnI}(hf:E.fn f=some i)(hvb:vb f=f){n base:Nat}{sp:Nat->Bool}{held:Bool}{ts:List TypeId}{ss:List Shp}(hs:shpsOf E.ty n ts=some (ss,i.tin))(ho:i.tout=List.replicate ts.length .skip++[.bool])
  {args:Array Value} {ds:List (DataW H)} {p:List MemPlace} (hA:DataW.TrodAll enc E.P W 0 sp held ts args.toList ds p) (hv:∀(j:Nat) t v,ts[j]?=some t->args.toList[j]?=some v->Value.okWide E.P W .any base t v)
  (hw:(DataW.weightsEach E.P ts ds).all (·≤reachBytes)=true) (htab:Tabs W (Old W)) (pure:∀L,All2 Fits ss L->∃n,evF E n f L=some [.bool true]) :
  Calls E.P f args W λe W'=>e=.returned (.bool true)/\Below W.heap.size W W':=by
 obtain⟨L,l1,l2⟩:=qmb hE hs hA hv hw;obtain⟨m,hm⟩:=pure L l1;obtain⟨_,hC⟩:=evF_ok hE hX m f i L _ hf hm;rw[hvb]at hC;have hlen:args.toList.length=ts.length:=by
  have:∀ {ts:List TypeId} {vs:List Value} {ds:List (DataW H)} {p:List MemPlace},DataW.TrodAll enc E.P W 0 sp held ts vs ds p->vs.length=ts.length:=by
   intro ts
   induction ts with
   |nil=>intro vs ds p h;cases vs <;> cases ds <;> simp only[DataW.TrodAll]at h;rfl
   |cons t ts ih =>
    intro vs ds p h;cases vs <;> cases ds <;> simp only[DataW.TrodAll]at h;obtain⟨_,_,_,h,_⟩:=h;simp[ih h]
  exact this hA
 have:=hC W (Old W) args.toList [] (λb h=>h) htab l2 ⟨λi g sh h=>by simp at h,λi j g g' sh sh' h=>by simp at h⟩;rw[show args.toList.toArray=args by simp]at this;refine this.mono λe W' ⟨S',fin',R,h1,h2,h3,_⟩=>?_;rw[ho]at h2;have hR:=qmc hlen h2 rfl;subst hR;exact⟨h1,h3.os,h3.tape,h3.output,h3.size,λb hb=>h3.block b hb λ⟨i,g,sh,q,_⟩=>by simp at q⟩
theorem qmd(hl:laidOutB E.P=true){W':World}(hb:Below W.heap.size W W'):∀ {ts:List TypeId} {vs:List Value} {ds:List (DataW H)} {p:List MemPlace},ts.all (λt=>E.P.readableRec t&&decide (t<E.P.types.size))=true ->
  DataW.TrodAll enc E.P W 0 (λ_=>true) true ts vs ds p->(∀x∈p,x.block<W.heap.size)->DataW.TrodAll enc E.P W' 0 (λb=>decide (b<W.heap.size)) true ts vs ds p
 |[],vs,ds,p,_,h,_=>by cases vs <;> cases ds <;> simp only[DataW.TrodAll]at h ⊢;exact h
 |t::ts,vs,ds,p,hr,h,hlt=>by
  cases vs <;> cases ds <;> simp only[DataW.TrodAll]at h ⊢;obtain⟨p1,p2,h1,h2,rfl⟩:=h;simp only[Bk,Ai,As]at hr;exact⟨p1,p2,Below.trod hl hr.1.1 hr.1.2 h1 hb λx hx=>hlt x (Er _ hx),qmd hl hb hr.2 h2 λx hx=>hlt x (DM _ hx),rfl⟩
end
end Rf
end
end
namespace Rf
open Go
theorem q9{i n:Nat}(h:i<n:=by omega):ix (i:Int) n=some i:=by
 unfold ix;rw[if_pos ⟨by omega,by omega⟩];rfl
theorem ix_int{i:Int}{n:Nat}(h0:0<=i)(h:i<n):ix i n=some i.toNat:=by
 unfold ix;rw[if_pos ⟨h0,h⟩]
theorem q1v{i n:Nat}(h:i<=n:=by omega):bd (i:Int) n=some i:=by
 unfold bd;rw[if_pos ⟨by omega,by omega⟩];rfl
theorem qk{x:Int}(h1:-9223372036854775808<=x:=by omega)(h2:x<=9223372036854775807:=by omega):w6 x=x:=by
 unfold w6 IntKind.wrap;simp[IntKind.bits,IntKind.signed];split <;> omega
theorem qc{i:Nat}(h:i<9223372036854775807:=by omega):w6 ((i:Int)+1)=((i+1:Nat):Int):=by
 rw[qk];rfl
theorem q2a{α:Type}(f:α->FV)(l:List α)(i c:Nat):at' (l.map f) i c=(l[i]?).bind λx=>(f x).cells[c]?:=by
 simp[at'];cases l[i]? <;> rfl
theorem q7k(x:FV)(c:Nat):at' [x] 0 c=x.cells[c]?:=rfl
theorem qi(k:IntKind)(n:Int):asInt k (some (.int k n))=some n:=by simp[asInt]
theorem q41(b:Bool):asBool (some (.bool b))=some b:=rfl
theorem q2k(s:ByteArray):asStr (some (.str s))=some s:=rfl
theorem qy(z:Nat)(xs:List FV):asLst z (some (.list z xs))=some xs:=by simp[asLst]
theorem rr:(∀ {α β:Type} (a:α) (f:α->Option β),(some a).bind f=f a)/\(∀ {α:Type} (a:α) (l:List α),(a::l)[0]?=some a)/\(∀ {α:Type} (a:α) (l:List α) (i:Nat),(a::l)[i+1]?=l[i]?) /\
 (∀(z:Nat) (xs:List FV),asLst z (some (.list z xs))=some xs)/\(∀(k:IntKind) (n:Int),asInt k (some (.int k n))=some n)/\(∀b:Bool,asBool (some (.bool b))=some b)/\(∀s:ByteArray,asStr (some (.str s))=some s) /\
 (∀ {α:Type} (x y:α),cond true x y=x)/\(∀ {α:Type} (x y:α),cond false x y=y) :=
 ⟨λ_ _=>rfl,λ_ _=>rfl,λ_ _ _=>rfl,qy,qi,q41,q2k,λ_ _=>rfl,λ_ _=>rfl⟩
theorem toList_eq(a b:ByteArray):(a.toList==b.toList)=decide (a=b):=by
 rw[<- beq_toListBytes];rw[Bm,MapKept.bytes_beq];simp
theorem All2.q88{α β:Type}{R:α->β->Prop}{ys:List β}(h:All2 R [] ys):ys=[]:=by cases h;rfl
theorem All2.cons_inv{α β:Type}{R:α->β->Prop}{x:α}{xs:List α}{ys:List β}(h:All2 R (x::xs) ys):∃y ys',ys=y::ys'/\R x y/\All2 R xs ys':=by
 cases h with
 |cons h t=>exact⟨_,_,rfl,h,t⟩
theorem Fits.q1n{k:IntKind}{x:FV}(h:Fits (.int k) x):∃n,x=.int k n/\k.min<=n/\n<=k.max:=by cases h with | int a b=>exact⟨_,rfl,a,b⟩
theorem Fits.q49{x:FV}(h:Fits .bool x):∃b,x=.bool b:=by cases h with | bool b=>exact⟨_,rfl⟩
theorem Fits.q5b{x:FV}(h:Fits .str x):∃s,x=.str s/\s.size<=140737488351232:=by cases h with | str a=>exact⟨_,rfl,a⟩
theorem Fits.lst_inv{ag:Bool}{by':Nat}{es:List Shp}{x:FV}(h:Fits (.lst ag by' es) x):∃css:List (List FV),x=.list es.length (css.map (mkEl ag))/\css.length*by'<=140737488351232/\∀cs,cs∈css->All2 Fits es cs:=by
 cases h with
 |lst h1 h2 h3 =>
  refine⟨_,rfl,h1,λcs hcs=>.of (h2 cs hcs).symm λj s c q1 q2=>?_⟩;obtain⟨i,hi⟩:=Bt.1 hcs;exact h3 i j cs s c hi q1 q2
theorem Fits.q8y{α:Type}{ag:Bool}{by':Nat}{es:List Shp}{x:FV}(h:Fits (.lst ag by' es) x)(f:α->FV){R:α->Prop}(hf:∀cs,All2 Fits es cs->∃a,mkEl ag cs=f a/\R a) :
  ∃l:List α,x=.list es.length (l.map f)/\l.length*by'<=140737488351232/\∀a,a∈l->R a:=by
 obtain⟨css,rfl,h1,h2⟩:=h.lst_inv;clear h;have:∀css:List (List FV),(∀cs,cs∈css->All2 Fits es cs)->∃l:List α,css.map (mkEl ag)=l.map f/\l.length=css.length/\∀a,a∈l->R a:=by
  intro css
  induction css with
  |nil=>intro _;exact⟨[],rfl,rfl,λa h=>by simp at h⟩
  |cons c css ih =>
   intro h;obtain⟨l,q1,q2,q3⟩:=ih λcs hcs=>h cs (AA _ hcs);obtain⟨a,p1,p2⟩:=hf c (h c AF);refine⟨a::l,by simp[q1,p1],by simp[q2],λb hb=>?_⟩;rcases Ar.1 hb with rfl | hb
   ·exact p2
   ·exact q3 b hb
 obtain⟨l,q1,q2,q3⟩:=this css h2;exact⟨l,by rw[q1],by rw[q2];exact h1,q3⟩
theorem qic(a b:FV):keq a b=keq b a:=by
 have one:∀a b:FV,keq1 a b=keq1 b a:=by
  intro a b;cases a <;> cases b <;> simp only[keq1] <;> rw[Bm] <;> simp only[Bu] <;> exact eq_comm
 have all:∀as bs:List FV,keqs as bs=keqs bs as:=by
  intro as
  induction as with
  |nil=>intro bs;cases bs <;> rfl
  |cons a as ih =>
   intro bs;cases bs with
   |nil=>rfl
   |cons b bs=>simp only[keqs,one a b,ih bs]
 exact all _ _
theorem keq_left{k k' x:FV}(h:keq k' k=true):keq k' x=keq k x:=by
 rw[qic k' x,qic k x];rw[qic]at h;exact(qgq h)
theorem qj3(k v:FV)(c:Int)(k' z:FV):∀es:List FV,mgetD (mput es k v c) k' z=bif keq k' k then v else mgetD es k' z
 |[]=>by
  simp only[mput,mgetD,entKey,q57]
 |e::es=>by
  have ih:=qj3 k v c k' z es;simp only[mput];cases h:keq k (entKey e)with
  |true =>
   simp only[Ac,mgetD,entKey,q57];have h2:keq k' (entKey e)=keq k' k:=qgq h;simp only[entKey]at h2;rw[h2];cases keq k' k <;> rfl
  |false =>
   simp only[Ab,mgetD,ih];cases h2:keq k' k with
   |true=>rw[keq_left h2,h];rfl
   |false=>rfl
def MWf:List FV->Int->Prop
 |[],_=>True
 |e::es,c=>entBorn e<c/\(∀x,x∈es->entBorn x≠entBorn e)/\MWf es c
theorem MWf.mem{es:List FV}{c:Int}(h:MWf es c):∀e,e∈es->entBorn e<c:=by
 induction es with
 |nil=>intro e he;simp at he
 |cons x es ih =>
  intro e he;rcases Ar.1 he with rfl | he
  ·exact h.1
  ·exact ih h.2.2 e he
theorem MWf.mono{es:List FV}{c c':Int}(h:MWf es c)(hc:c<=c'):MWf es c':=by
 induction es with
 |nil=>trivial
 |cons x es ih=>exact⟨by have:=h.1;omega,h.2.1,ih h.2.2⟩
theorem qnm(k v:FV)(c:Int):∀ {es:List FV} {x:FV},x∈mput es k v c->(∃y,y∈es/\entBorn y=entBorn x)\/(entBorn x=c/\mhas es k=false)
 |[],x,h=>by simp[mput]at h;subst h;exact .inr ⟨rfl,rfl⟩
 |e::es,x,h=>by
  simp only[mput]at h;cases hk:keq k (entKey e)with
  |true =>
   rw[hk,Ac]at h;rcases Ar.1 h with rfl | h
   ·exact .inl ⟨e,by simp,rfl⟩
   ·exact .inl ⟨x,AA _ h,rfl⟩
  |false =>
   rw[hk,Ab]at h;rcases Ar.1 h with rfl | h
   ·exact .inl ⟨_,by simp,rfl⟩
   ·rcases qnm k v c h with⟨y,h1,h2⟩ | ⟨h1,h2⟩
    ·exact .inl ⟨y,AA _ h1,h2⟩
    ·exact .inr ⟨h1,by simpa[mhas,hk]using h2⟩
theorem MWf.put{k v:FV}:∀ {es:List FV} {c:Int},MWf es c->MWf (mput es k v c) (mclk es k c)
 |[],c,h=>⟨by simp[entBorn,mclk,mhas];omega,λx h=>by simp at h,trivial⟩
 |e::es,c,h=>by
  simp only[mput];cases hk:keq k (entKey e)with
  |true =>
   have:mclk (e::es) k c=c:=by simp[mclk,mhas,hk]
   rw[this,Ac];exact⟨h.1,h.2.1,h.2.2⟩
  |false =>
   have hc:mclk (e::es) k c=mclk es k c:=by simp[mclk,mhas,hk]
   rw[hc,Ab];have hle:c<=mclk es k c:=by unfold mclk;cases mhas es k <;> simp;omega
   refine⟨by have:=h.1;omega,λx hx=>?_,h.2.2.put⟩;rcases qnm k v c hx with⟨y,h1,h2⟩ | ⟨h1,_⟩
   ·rw[<- h2];exact h.2.1 y h1
   ·rw[h1];have:=h.1;omega
theorem qj4(k z:FV)(c:Int):∀es:List FV,q5t (ment es k z c) (mborn es k c)=true
 |[]=>by simp[ment,mborn,q5t,entBorn]
 |e::es=>by
  have ih:=qj4 k z c es;simp only[ment,mborn];cases hk:keq k (entKey e)with
  |true=>simp[q5t,entBorn]
  |false =>
   simp only[Ab,q5t,DO]at ih ⊢;rw[ih,Bool.or_true]
theorem qfg(k z v:FV):∀ {es:List FV} {c:Int},MWf es c->msetB (ment es k z c) (mborn es k c) v=mput es k v c
 |[],c,_=>by simp[ment,mborn,msetB,mput,entBorn,entKey]
 |e::es,c,h=>by
  have ih:=qfg k z v h.2.2;simp only[ment,mborn,mput];cases hk:keq k (entKey e)with
  |true=>simp[msetB,entBorn,entKey]
  |false =>
   simp only[Ab,msetB];have hne:(entBorn e==mborn es k c)=false:=by
    have hb:∀ {es:List FV},(∃y,y∈es/\entBorn y=mborn es k c)\/mborn es k c=c:=by
     intro es
     induction es with
     |nil=>exact .inr rfl
     |cons x es ih =>
      simp only[mborn];cases hk:keq k (entKey x)with
      |true=>exact .inl ⟨x,by simp,rfl⟩
      |false =>
       rcases ih with⟨y,h1,h2⟩ | h
       ·exact .inl ⟨y,AA _ h1,h2⟩
       ·exact .inr h
    rcases hb (es:=es)with⟨y,h1,h2⟩ | h1
    ·rw[<- h2];simpa using BO (h.2.1 y h1)
    ·rw[h1];have:=h.1;simp;omega
   rw[hne,Ab,ih]
end Rf
