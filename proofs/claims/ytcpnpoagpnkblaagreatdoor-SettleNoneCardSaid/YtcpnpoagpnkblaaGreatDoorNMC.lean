/- Merged: Rf14 Rf15 Rf16 Rf17 Rf18 Rf19 Rf20 Rf21 Rf22 Rf23 Rf24 Rf25 Rf28 Rf29. -/
import Derived.Test.YtcpnpoagpnkblaaGreatDoorNMA
import Derived.Laws.StructEq
import Derived.ChangeKeysEq
import Derived.Carry
import Derived.Laws.Tables
import Derived.Laws.Externs
import Derived.Scope
import Derived.LoopN
import Derived.Eval
import Derived.SizedLaws
import GoSem.ClaimChange
import Derived.WideShapes
set_option linter.unusedVariables false
set_option linter.unusedSimpArgs false
section
section
/- Maps: what an operation on a map does, against what it does to the abstract one. -/
namespace Rf
open Go
theorem ckEq_eq:∀ {a b:CK},ckEq a b=true->a=b:=by
 intro a b h;cases a <;> cases b <;> simp only[ckEq,Bs]at h
 ·rw[q72.1 h]
 ·rfl
 ·rfl
 ·rw[Aw h]
 ·rw[(qdj h).1]
theorem qjl:∀ {a b:List CK},cksEq a b=true->a=b
 |[],[],_=>rfl
 |[],_::_,h=>by simp[cksEq]at h
 |_::_,[],h=>by simp[cksEq]at h
 |a::as,b::bs,h=>by
  simp only[cksEq,Ai]at h;rw[ckEq_eq h.1,qjl h.2]
theorem zEq1_eq{a b:FV}(h:zEq1 a b=true):a=b:=by
 unfold zEq1 at h;split at h
 ·simp only[Ai]at h;obtain⟨h1,h2⟩:=h;rw[q72.1 h1];split at h2
  ·rfl
  ·simp at h2
 ·rfl
 ·rfl
 ·rw[Aw h]
 ·rw[(qdj h).1]
 ·simp at h
theorem zEqs_eq:∀ {a b:List FV},zEqs a b=true->a=b
 |[],[],_=>rfl
 |[],_::_,h=>by simp[zEqs]at h
 |_::_,[],h=>by simp[zEqs]at h
 |a::as,b::bs,h=>by
  simp only[zEqs,Ai]at h;rw[zEq1_eq h.1,zEqs_eq h.2]
theorem zEq_eq{a b:FV}(h:zEq a b=true):a=b:=by
 unfold zEq at h;split at h
 ·rw[zEqs_eq h]
 ·simp at h
 ·simp at h
 ·exact zEq1_eq h
theorem qfb{a a':Bool}{b b':List CK}{c c':FV}(h:mkEq a b c a' b' c'=true):a=a'/\b=b'/\c=c':=by
 simp only[mkEq,Ai]at h;refine⟨?_,qjl h.1.2,zEq_eq h.2⟩;have:=h.1.1;cases a <;> cases a' <;> simp_all[bEq]
theorem q6n{c:CK}{x:FV}(h:kfit c x=true):(∃k n,c=.int k/\x=.int k n)\/(∃b,c=.bool/\x=.bool b)\/∃s,c=.str/\x=.str s:=by
 unfold kfit at h;split at h <;> first | exact .inl ⟨_,_,rfl,rfl⟩ | exact .inr (.inl ⟨_,rfl,rfl⟩) | exact .inr (.inr ⟨_,rfl,rfl⟩) | simp at h
section
variable {P:Program} {w w':World} {S:Nat->Prop}
theorem qfy{t:TypeId}{c:CK}(h:basicT P t c=true):P.plainKey t=true:=by
 unfold basicT at h;unfold Program.plainKey;split at h <;> simp_all
theorem qjm{t:TypeId}{c:CK}{x y:FV}{v u:Value}(d:Nat)(hb:basicT P t c=true)(hx:kfit c x=true)(hy:kfit c y=true)(hv:FRep w S x v)(hu:FRep w S y u) :
  (Op.equalIn (d+1) t v u).run P w'=.ok (keq1 x y) w':=by
 rcases q6n hx with⟨k,n,rfl,rfl⟩ | ⟨b,rfl,rfl⟩ | ⟨s,rfl,rfl⟩
 ·rcases q6n hy with⟨k',n',hc,rfl⟩ | ⟨b',hc,rfl⟩ | ⟨s',hc,rfl⟩ <;> cases hc
  cases hv;cases hu;unfold basicT at hb;split at hb <;> simp_all;rw[run_equalIn_int w' d t _ _ n n' (by assumption)];rfl
 ·rcases q6n hy with⟨k',n',hc,rfl⟩ | ⟨b',hc,rfl⟩ | ⟨s',hc,rfl⟩ <;> cases hc
  cases hv;cases hu;unfold basicT at hb;split at hb <;> simp_all;rw[run_equalIn_bool' w' d t b b' (by assumption)];rfl
 ·rcases q6n hy with⟨k',n',hc,rfl⟩ | ⟨b',hc,rfl⟩ | ⟨s',hc,rfl⟩ <;> cases hc
  cases hv;cases hu;unfold basicT at hb;split at hb <;> simp_all;rw[run_equalIn_string w' d t s s' (by assumption)];rfl
theorem qfz{t:TypeId}{c:CK}{x:FV}{v:Value}(hb:basicT P t c=true)(hx:kfit c x=true)(hv:FRep w S x v):∃d,P.underlying t=some d/\MapKept.IsKey d v:=by
 rcases q6n hx with⟨k,n,rfl,rfl⟩ | ⟨b,rfl,rfl⟩ | ⟨s,rfl,rfl⟩ <;> cases hv <;> (unfold basicT at hb;split at hb <;> simp_all[MapKept.IsKey])
 rw[q72.1 hb]
theorem qjn{t:TypeId}{c:CK}{x:FV}{v:Value}(em:Bool)(n:Nat)(hb:basicT P t c=true)(hx:kfit c x=true)(hv:FRep w S x v):(Instr.checkKey em (n+1) t v).run P w'=.ok () w':=by
 obtain⟨d,h1,h2⟩:=qfz hb hx hv;exact MapKept.run_checkKey h1 h2 em n
def q7q(w:World)(S:Nat->Prop)(xs:List FV)(j:Nat)(vs:Array Value):Prop:=∀i x,xs[i]?=some x->∃v,vs[j+i]?=some v/\FRep w S x v
theorem q7q.tail{x:FV}{xs:List FV}{j:Nat}{vs:Array Value}(h:q7q w S (x::xs) j vs):q7q w S xs (j+1) vs:=λi y hy=>by
 have:=h (i+1) y (by simpa using hy);rwa[show j+1+i=j+(i+1) by omega]
theorem qjo(d:Nat){vs us:Array Value}:∀ {fs:List Field} {j:Nat} {cs:List CK} {xs ys:List FV},fldsOk P fs j cs=true->kfits cs xs=true->kfits cs ys=true->q7q w S xs j vs->q7q w S ys j us ->
  (Op.eqFields (d+1) vs us fs).run P w'=.ok (keqs xs ys) w'
 |[],j,[],[],[],_,_,_,_,_=>by simp[Op.eqFields,keqs]
 |[],_,[],_::_,_,_,h,_,_,_=>by simp[kfits]at h
 |[],_,[],_,_::_,_,_,h,_,_=>by simp[kfits]at h
 |[],_,_::_,_,_,h,_,_,_,_=>by simp[fldsOk]at h
 |_::_,_,[],_,_,h,_,_,_,_=>by simp[fldsOk]at h
 |_::_,_,_::_,[],_,_,h,_,_,_=>by simp[kfits]at h
 |_::_,_,_::_,_,[],_,_,h,_,_=>by simp[kfits]at h
 |f::fs,j,c::cs,x::xs,y::ys,h,hx,hy,hv,hu=>by
  simp only[fldsOk,Ai,CF,Bv]at h;simp only[kfits,Ai]at hx hy;obtain⟨⟨⟨h1,h2⟩,h3⟩,h4⟩:=h;obtain⟨v,q1,q2⟩:=hv 0 x rfl;obtain⟨u,p1,p2⟩:=hu 0 y rfl;rw[Ay]at q1 p1;have ih:=qjo d h4 hx.2 hy.2 hv.tail hu.tail;rw[<- h2]at q1 p1;simp only[Op.eqFields,h1,ne_eq,DZ,Ba,Sem.run_bind,run_part_plain w' (qfy h3) q1,run_part_plain w' (qfy h3) p1,qjm d h3 hx.1 hy.1 q2 p2,Result.andThen_ok];cases hk:keq1 x y with
  |false=>simp[keqs,hk]
  |true=>simpa[keqs,hk]using ih
theorem qjp(em:Bool)(n:Nat){vs:Array Value}:∀ {fs:List Field} {j:Nat} {cs:List CK} {xs:List FV},fldsOk P fs j cs=true->kfits cs xs=true->q7q w S xs j vs ->
  (forIn (m:=Sem) fs PUnit.unit (λf _=>if f.name ≠ "_" then(do
   let l <- part f.type vs f.offset
   Instr.checkKey em (n+1) f.type l
   pure (ForInStep.yield PUnit.unit))else pure (ForInStep.yield PUnit.unit))).run P w'=.ok PUnit.unit w'
 |[],_,_,_,_,_,_=>by simp
 |_::_,_,[],_,h,_,_=>by simp[fldsOk]at h
 |_::_,_,_::_,[],_,h,_=>by simp[kfits]at h
 |f::fs,j,c::cs,x::xs,h,hx,hv=>by
  simp only[fldsOk,Ai,CF,Bv]at h;simp only[kfits,Ai]at hx;obtain⟨⟨⟨h1,h2⟩,h3⟩,h4⟩:=h;obtain⟨v,q1,q2⟩:=hv 0 x rfl;rw[Ay]at q1;have ih:=qjp em n h4 hx.2 hv.tail;rw[<- h2]at q1;rw[List.forIn_cons];simp only[h1,ne_eq,DZ,Ba,Sem.run_bind,run_part_plain w' (qfy h3) q1,qjn em n h3 hx.1 q2,Result.andThen_ok,Sem.run_pure];exact ih
theorem qbk{cs:List FV}{v:Value}(h:FRep w S (.agg cs) v):∃vs,v=.agg vs/\q7q w S cs 0 vs:=by
 cases h with
 |agg _ vs hs h =>
  refine⟨vs,rfl,λi x hx=>?_⟩;have:=h i x hx;have hi:i<vs.size:=by rw[hs];exact(Am.1 hx).1
  refine⟨vs[i],by rw[AG];exact Bo hi,?_⟩;simpa[Az,hi]using this
theorem q6o{ks:List CK}{k:FV}(h:q2k false ks k=true):∃c,ks=[c]/\kfit c k=true/\k.cells=[k]:=by
 simp only[q2k,Ab,Ai,Cm]at h;cases k with
 |agg cs=>simp[FV.isAgg]at h
 |_ =>
  obtain⟨_,h⟩:=h;simp only[FV.cells]at h;cases ks with
  |nil=>simp[kfits]at h
  |cons c cs =>
   cases cs with
   |nil=>exact⟨c,rfl,by simpa[kfits]using h,rfl⟩
   |cons _ _=>simp[kfits]at h
theorem q8j{ks:List CK}{k:FV}(h:q2k true ks k=true):∃cs,k=.agg cs/\kfits ks cs=true:=by
 simp only[q2k,Ac,Ai]at h;cases k with
 |agg cs=>exact⟨cs,rfl,h.2⟩
 |_=>simp[FV.isAgg]at h
theorem qg0{kt:TypeId}{ki:TyI}(h:chkKey P kt ki=true) :
  (∃fs,P.underlying kt=some (.struct fs)/\ki.agg=true/\P.stoodInHeld kt=false/\fldsOk P fs.toList 0 ki.ck=true) \/
  (∃d c,P.underlying kt=some d/\(∀fs,d≠.struct fs)/\ki.agg=false/\ki.ck=[c]/\basicT P kt c=true):=by
 unfold chkKey at h;split at h
 ·rename_i fs hu;simp only[Ai,Cm]at h;exact .inl ⟨fs,hu,h.1.1,h.1.2,h.2⟩
 ·rename_i d hne hu;simp only[Ai,Cm]at h;obtain⟨h1,h2⟩:=h;split at h2
  ·rename_i c hc;exact .inr ⟨d,c,hu,λfs q=>hne fs (by rw[<- q]),h1,hc,h2⟩
  ·simp at h2
 ·simp at h
theorem run_checkKey'{kt:TypeId}{ki:TyI}{x:FV}{v:Value}(em:Bool)(hc:chkKey P kt ki=true)(hx:q2k ki.agg ki.ck x=true)(hv:FRep w S x v):(Instr.checkKey em 10000 kt v).run P w'=.ok () w':=by
 rcases qg0 hc with⟨fs,h1,h2,h3,h4⟩ | ⟨d,c,h1,_,h2,h3,h4⟩
 ·rw[h2]at hx;obtain⟨cs,rfl,hk⟩:=q8j hx;obtain⟨vs,rfl,hcell⟩:=qbk hv;have:=qjp (w':=w') em 9998 h4 hk hcell;unfold Instr.checkKey;simp only[Sem.run_bind,run_underlying h1,Result.andThen_ok];rw[<- Array.forIn_toList];refine(congrArg (λr:Result PUnit=>r.andThen λ_ w'=>Sem.run P (pure ()) w') this).trans ?_;simp
 ·rw[h2,h3]at hx;obtain⟨c',hc',hf,_⟩:=q6o hx;cases hc';exact qjn em 9999 h4 hf hv
theorem qqh{kt:TypeId}{ki:TyI}{x y:FV}{v u:Value}(hc:chkKey P kt ki=true)(hx:q2k ki.agg ki.ck x=true)(hy:q2k ki.agg ki.ck y=true)(hv:FRep w S x v)(hu:FRep w S y u) :
  (Op.equal kt v u).run P w'=.ok (keq x y) w':=by
 rcases qg0 hc with⟨fs,h1,h2,h3,h4⟩ | ⟨d,c,h1,_,h2,h3,h4⟩
 ·rw[h2]at hx hy;obtain⟨cs,rfl,hk⟩:=q8j hx;obtain⟨ds,rfl,hl⟩:=q8j hy;obtain⟨vs,rfl,hcell⟩:=qbk hv;obtain⟨us,rfl,hdell⟩:=qbk hu;have hfs:P.fieldsOf kt=fs:=by simp[Program.fieldsOf,h1]
  have:=qjo (w':=w') 9998 h4 hk hl hcell hdell;show(Op.equalIn (9999+1) kt (.agg vs) (.agg us)).run P w'=_;rw[run_equalIn_struct w' 9999 kt vs us (by rw[hfs];exact h1) h3,hfs];exact this
 ·rw[h2,h3]at hx hy;obtain⟨c',hc',hf,e1⟩:=q6o hx;cases hc';obtain⟨c',hc',hf',e2⟩:=q6o hy;cases hc';have:=qjm (w':=w') 9999 h4 hf hf' hv hu;show(Op.equalIn (9999+1) kt v u).run P w'=_;rw[this,keq,e1,e2];simp[keqs]
theorem keq1_eq{c:CK}{x y:FV}(hx:kfit c x=true)(hy:kfit c y=true):keq1 x y=true↔x=y:=by
 rcases q6n hx with⟨k,n,rfl,rfl⟩ | ⟨b,rfl,rfl⟩ | ⟨s,rfl,rfl⟩ <;> rcases q6n hy with⟨k',n',hc,rfl⟩ | ⟨b',hc,rfl⟩ | ⟨s',hc,rfl⟩ <;> cases hc
 ·simp[keq1]
 ·simp[keq1]
 ·simp only[keq1,Bv,FV.str.injEq];constructor
  ·intro h;have:=(beq_toListBytes s s').trans (Bv.2 (by simpa using h));exact(MapKept.bytes_beq s s').1 this
  ·rintro rfl;rfl
theorem keqs_eq:∀ {cs:List CK} {xs ys:List FV},kfits cs xs=true->kfits cs ys=true->(keqs xs ys=true↔xs=ys)
 |[],[],[],_,_=>by simp[keqs]
 |[],_::_,_,h,_=>by simp[kfits]at h
 |[],_,_::_,_,h=>by simp[kfits]at h
 |_::_,[],_,h,_=>by simp[kfits]at h
 |_::_,_,[],_,h=>by simp[kfits]at h
 |c::cs,x::xs,y::ys,hx,hy=>by
  simp only[kfits,Ai]at hx hy;simp only[keqs,Ai,keq1_eq hx.1 hy.1,keqs_eq hx.2 hy.2,AY]
theorem qah{kag:Bool}{ks:List CK}{x y:FV}(hx:q2k kag ks x=true)(hy:q2k kag ks y=true):keq x y=true↔x=y:=by
 cases kag with
 |true =>
  obtain⟨cs,rfl,h1⟩:=q8j hx;obtain⟨ds,rfl,h2⟩:=q8j hy;simp only[keq,FV.cells,keqs_eq h1 h2,FV.agg.injEq]
 |false =>
  obtain⟨c,rfl,h1,e1⟩:=q6o hx;obtain⟨c',hc,h2,e2⟩:=q6o hy;cases hc;simp only[keq,e1,e2,keqs,CG,keq1_eq h1 h2]
theorem qai{c:CK}{x:FV}{v u:Value}(hx:kfit c x=true)(hv:FRep w S x v)(hu:FRep w S x u):v=u/\∀n,Instr.sameBits n v v=true:=by
 rcases q6n hx with⟨k,n,rfl,rfl⟩ | ⟨b,rfl,rfl⟩ | ⟨s,rfl,rfl⟩ <;> cases hv <;> cases hu <;> refine⟨rfl,λn=>?_⟩ <;> cases n <;> simp[Instr.sameBits,(MapKept.bytes_beq _ _).2 rfl]
theorem qg1{kag:Bool}{ks:List CK}{x:FV}{v u:Value}(hx:q2k kag ks x=true)(hv:FRep w S x v)(hu:FRep w S x u):v=u/\Instr.sameBits 10000 v v=true:=by
 cases kag with
 |false =>
  obtain⟨c,rfl,h1,e1⟩:=q6o hx;exact⟨(qai h1 hv hu).1,(qai h1 hv hv).2 _⟩
 |true =>
  obtain⟨cs,rfl,h1⟩:=q8j hx;have hfit:∀ {ks:List CK} {cs:List FV},kfits ks cs=true->∀(i:Nat) (x:FV),cs[i]?=some x->∃c,kfit c x=true:=by
   intro ks
   induction ks with
   |nil=>intro cs h i x hi;cases cs <;> simp_all[kfits]
   |cons c ks ih =>
    intro cs h i x hi;cases cs with
    |nil=>simp at hi
    |cons y cs =>
     simp only[kfits,Ai]at h;cases i with
     |zero=>simp at hi;subst hi;exact⟨c,h.1⟩
     |succ i=>exact ih h.2 i x (by simpa using hi)
  cases hv with
  |agg _ vs hs h =>
   cases hu with
   |agg _ us hs' h' =>
    have heq:∀i (hi:i<vs.size),vs[i]?=us[i]?/\∀n,Instr.sameBits n vs[i] vs[i]=true:=λi hi=>by
     have hc:i<cs.length:=by rw[<- hs];exact hi
     obtain⟨c,hc'⟩:=hfit h1 i cs[i] (Ag hc);have q1:=h i cs[i] (Ag hc);have q2:=h' i cs[i] (Ag hc);have hi':i<us.size:=by rw[hs'];exact hc
     rw[Az,Bo hi,Bg]at q1;rw[Az,Bo hi',Bg]at q2;rw[Bo hi,Bo hi',(qai hc' q1 q2).1];exact⟨rfl,by rw[<- (qai hc' q1 q2).1];exact(qai hc' q1 q1).2⟩
    refine⟨?_,?_⟩
    ·congr 1;apply Array.ext_getElem?;intro i;by_cases hi:i<vs.size
     ·exact(heq i hi).1
     ·rw[Dd (by omega),Dd (by omega)]
    ·unfold Instr.sameBits;simp only[Bi,AA,Av];rintro⟨p1,p2⟩ hp;obtain⟨i,hi⟩:=Bu.1 hp;rw[CL]at hi;obtain⟨i1,i2⟩:=hi;simp only at i1 i2;have hlt:i<vs.size:=by
      have:=(Am.1 i1).1;simpa using this
     rw[i1]at i2;rw[BA,Bo hlt]at i1;simp only[AH]at i1 i2;subst i2;rw[<- i1];exact(heq i hlt).2 _
theorem qjq{kag:Bool}{ks:List CK}{x:FV}{v u:Value}(hx:q2k kag ks x=true)(hv:FRep w S x v)(hu:FRep w S x u):(Instr.keyThatStays v u).run P w'=.ok u w':=by
 obtain⟨rfl,h⟩:=qg1 hx hv hu;simp[Instr.keyThatStays,h]
end
end Rf
end
section
namespace Rf
open Go
theorem FRep.ofCells{w:World}{S:Nat->Prop}{xs:List FV}{vs:Array Value}(hs:vs.size=xs.length)(h:∀(j:Nat) (c:FV),xs[j]?=some c->∃u,vs[j]?=some u/\FRep w S c u):FRep w S (.agg xs) (.agg vs) :=
 .agg xs vs hs λj c hj=>by
  obtain⟨u,h1,h2⟩:=h j c hj;rw[Az,h1,Bg];exact h2
section
variable {P:Program} {w w':World} {S:Nat->Prop}
def fnd(k:FV):List FV->List MapEntry->Nat->Option (Nat×Value)
 |x::es,e::r,i=>if keq k (entKey x)=true then some (i,e.val)else fnd k es r (i+1)
 |_,_,_=>none
theorem ERep.key{kag:Bool}{ks:List CK}{z x:FV}{e:MapEntry}(h:ERep w S kag ks z x e):q2k kag ks (entKey x)=true/\FRep w S (entKey x) e.key/\q32 z (q4x x)=true/\FRep w S (q4x x) e.val/\entBorn x=e.born:=by
 obtain⟨k,v,rfl,h1,h2,h3,h4⟩:=h;exact⟨h1,h3,h2,h4,rfl⟩
theorem qjr{kt:TypeId}{ki:TyI}{z:FV}{k:FV}{kv:Value}(hc:chkKey P kt ki=true)(hk:q2k ki.agg ki.ck k=true)(hv:FRep w S k kv):∀ {es:List FV} {l:List MapEntry} {i:Nat},All2 (ERep w S ki.agg ki.ck z) es l ->
  (Instr.findAsking kt kv l i).run P w'=.ok (fnd k es l i) w'
 |_,_,i,.nil=>by simp[Instr.findAsking,fnd]
 |_,_,i,.cons (x:=x) (y:=e) (xs:=es) (ys:=l) h t=>by
  obtain⟨h1,h2,_⟩:=h.key;have ih:=qjr (i:=i+1) hc hk hv t;simp only[Instr.findAsking,Sem.run_bind,qqh hc hk h1 hv h2,Result.andThen_ok,fnd];cases keq k (entKey x)with
  |true=>simp
  |false=>simpa using ih
theorem qg2{c:CK}{x y:FV}{v:Value}(hx:kfit c x=true)(hy:kfit c y=true)(hv:FRep w S x v)(hu:FRep w S y v):x=y:=by
 rcases q6n hx with⟨q,n,rfl,rfl⟩ | ⟨b,rfl,rfl⟩ | ⟨s,rfl,rfl⟩ <;> rcases q6n hy with⟨q',n',hc,rfl⟩ | ⟨b',hc,rfl⟩ | ⟨s',hc,rfl⟩ <;> cases hc <;> cases hv <;> cases hu <;> rfl
theorem qjs{kt:TypeId}{d:TypeDesc}{c:CK}{z:FV}{k:FV}{kv:Value}(hd:P.underlying kt=some d)(hb:basicT P kt c=true)(hk:q2k false [c] k=true)(hv:FRep w S k kv):∀ {es:List FV} {l:List MapEntry} {i:Nat},All2 (ERep w S false [c] z) es l ->
  Instr.findNow d kv l i=some (fnd k es l i)
 |_,_,i,.nil=>by simp[Instr.findNow,fnd]
 |_,_,i,.cons (x:=x) (y:=e) (xs:=es) (ys:=l) h t=>by
  obtain⟨h1,h2,_⟩:=h.key;have ih:=qjs (i:=i+1) hd hb hk hv t;obtain⟨c1,q1,f1,_⟩:=q6o hk;cases q1;obtain⟨c2,q2,f2,_⟩:=q6o h1;cases q2;obtain⟨d1,u1,k1⟩:=qfz hb f1 hv;obtain⟨d2,u2,k2⟩:=qfz hb f2 h2;rw[hd]at u1 u2;cases u1;cases u2;obtain⟨r,hr,hiff⟩:=MapKept.sameNow_of_keys k1 k2;simp only[Instr.findNow,hr,fnd];have hkeq:keq k (entKey x)=r:=by
   rw[Bm,hiff,qah hk h1];constructor
   ·intro he;rw[he]at hv f1;exact(qai f1 hv h2).1
   ·intro he;rw[<- he]at h2;exact qg2 f1 f2 hv h2
  rw[hkeq];cases r with
  |true=>simp
  |false=>simpa using ih
theorem run_findKey'{kt:TypeId}{ki:TyI}{z:FV}{k:FV}{kv:Value}(hc:chkKey P kt ki=true)(hk:q2k ki.agg ki.ck k=true)(hv:FRep w S k kv){es:List FV}{l:List MapEntry}(h:All2 (ERep w S ki.agg ki.ck z) es l) :
  (Instr.findKey kt kv l).run P w'=.ok (fnd k es l 0) w':=by
 have hask:=qjr (w':=w') (i:=0) hc hk hv h;rcases qg0 hc with⟨fs,h1,h2,h3,h4⟩ | ⟨d,c,h1,_,h2,h3,h4⟩
 ·simp only[Instr.findKey,Sem.run_bind,run_underlying h1,Result.andThen_ok];cases h with
  |nil=>simp[Instr.findNow,fnd]
  |cons hh ht =>
   have:∀a b,Instr.sameNow (.struct fs) a b=none:=λa b=>by cases a <;> cases b <;> rfl
   simp only[Instr.findNow,this];exact hask
 ·rw[h2,h3]at hk h;exact MapKept.run_findKey h1 (qjs h1 h4 hk hv h)
theorem q9l{kag:Bool}{ks:List CK}{z k:FV}:∀ {es:List FV} {l:List MapEntry} {i:Nat},All2 (ERep w S kag ks z) es l ->
  (fnd k es l i=none/\mhas es k=false/\(∀y,mgetD es k y=y)/\(∀e,e∈es->keq k (entKey e)=false)) \/
  ∃j x e,fnd k es l i=some (i+j,e.val)/\es[j]?=some x/\l[j]?=some e/\ERep w S kag ks z x e/\keq k (entKey x)=true/\mhas es k=true/\(∀y,mgetD es k y=q4x x)/\∀y c,mborn es k c=entBorn x /\
   mput es k y c=es.set j (.agg [k,y,.int .i64 (entBorn x)])/\ment es k y c=es.set j (.agg [k,q4x x,.int .i64 (entBorn x)])/\mdel es k=es.eraseIdx j
 |_,_,i,.nil=>.inl ⟨rfl,rfl,λ_=>rfl,λ_ h=>by simp at h⟩
 |_,_,i,.cons (x:=x) (y:=e) (xs:=es) (ys:=l) h t=>by
  cases hk:keq k (entKey x)with
  |true =>
   refine .inr ⟨0,x,e,by simp[fnd,hk],rfl,rfl,h,hk,by simp[mhas,hk],λy=>by simp[mgetD,hk],λy c=>?_⟩;simp[mborn,mput,ment,mdel,hk]
  |false =>
   rcases q9l (k:=k) (i:=i+1) t with⟨a,b,c,d⟩ | ⟨j,x',e',a,b,c,d,f,g,p,q⟩
   ·refine .inl ⟨by simp[fnd,hk,a],by simpa[mhas,hk]using b,λy=>by simp[mgetD,hk,c y],λe he=>?_⟩;rcases Ar.1 he with rfl | he
    ·exact hk
    ·exact d e he
   ·refine .inr ⟨j+1,x',e',by simp[fnd,hk,a];omega,by simpa using b,by simpa using c,d,f,by simp[mhas]at g ⊢;exact .inr g,λy=>by simp[mgetD,hk,p y],λy c=>?_⟩;obtain⟨q1,q2,q3,q4⟩:=q y c;simp[mborn,mput,ment,mdel,hk,q1,q2,q3,q4]
theorem qbl{k:FV}:∀ {es:List FV},(∀e,e∈es->keq k (entKey e)=false)->∀y c,mput es k y c=es++[.agg [k,y,.int .i64 c]]/\ment es k y c=es++[.agg [k,y,.int .i64 c]]/\mborn es k c=c/\mdel es k=es
 |[],_,y,c=>by simp[mput,ment,mborn,mdel]
 |e::es,h,y,c=>by
  have h1:=h e (by simp);obtain⟨q1,q2,q3,q4⟩:=qbl (es:=es) (λe' he'=>h e' (AC _ he')) y c;simp[mput,ment,mborn,mdel,h1,q1,q2,q3,q4]
theorem All2.set{α β:Type}{R:α->β->Prop}{xs:List α}{ys:List β}(h:All2 R xs ys){x:α}{y:β}(hr:R x y):∀j,All2 R (xs.set j x) (ys.set j y):=by
 induction h with
 |nil=>intro j;simp;exact .nil
 |cons h t ih =>
  intro j;cases j with
  |zero=>exact .cons hr t
  |succ j=>exact .cons h (ih j)
theorem All2.erase{α β:Type}{R:α->β->Prop}{xs:List α}{ys:List β}(h:All2 R xs ys):∀j,All2 R (xs.eraseIdx j) (ys.eraseIdx j):=by
 induction h with
 |nil=>intro j;simp;exact .nil
 |cons h t ih =>
  intro j;cases j with
  |zero=>exact t
  |succ j=>exact .cons h (ih j)
theorem qg3(arr:Array MapEntry)(j:Nat)(e:MapEntry)(f:MapEntry->MapEntry)(h:arr.toList[j]?=some e):(arr.modify j f).toList=arr.toList.set j (f e):=by
 apply List.ext_getElem?;intro i;simp only[BA,Array.getElem?_modify,ET];by_cases hij:j=i
 ·subst hij;have hlt:=(Am.1 h).1;simp only[BA]at h;simp at hlt;rw[Bo hlt]at h;simp only[AH]at h;simp[hlt,h]
 ·simp[hij]
theorem qjt{kag:Bool}{ks:List CK}{z:FV}{b:Int}{y:FV}{v:Value}(hy:q32 z y=true)(hv:FRep w S y v):∀ {es:List FV} {l:List MapEntry},All2 (ERep w S kag ks z) es l->q5g es b=true ->
  ∃j e,l.findIdx? (λe=>(e.born:Int)==b)=some j/\l[j]?=some e/\All2 (ERep w S kag ks z) (msetB es b y) (l.set j { e with val:=v })
 |_,_,.nil,h=>by simp[q5g]at h
 |_,_,.cons (x:=x) (y:=e) (xs:=es) (ys:=l) h t,hb=>by
  obtain⟨h1,h2,h3,h4,h5⟩:=h.key;cases hk:((e.born:Int)==b)with
  |true =>
   refine⟨0,e,by simp[List.findIdx?_cons,hk],rfl,?_⟩;simp only[msetB,h5,hk,Ac,List.set_cons_zero];exact .cons ⟨_,_,rfl,h1,hy,h2,hv⟩ t
  |false =>
   have hb':q5g es b=true:=by simpa[q5g,h5,hk]using hb
   obtain⟨j,e',q1,q2,q3⟩:=qjt hy hv t hb';refine⟨j+1,e',by simp[List.findIdx?_cons,hk,q1],by simpa using q2,?_⟩;simp only[msetB,h5,hk,Ab,List.set_cons_succ];exact .cons h q3
theorem qju{k z:FV}{c:Int}:∀ {es:List FV} (k':FV),(∀k2,keq k k2=true->keq k' k2=keq k' k)->mgetD (ment es k z c) k' z=mgetD es k' z
 |[],k',_=>by
  simp only[ment,mgetD,entKey,q4x];cases keq k' k <;> rfl
 |e::es,k',h=>by
  have ih:=qju (es:=es) (c:=c) (z:=z) k' h;simp only[ment];cases hk:keq k (entKey e)with
  |true =>
   simp only[Ac,mgetD,entKey,q4x];have:=h _ hk;simp only[entKey]at this;rw[this]
  |false=>simp only[Ab,mgetD,ih]
end
section
variable {E:Env} {call:FuncId->List FV->Res} {X:Cx} {M:Mem} {a:Act} {w:World} {γ:Nat->Gh} {S:Nat->Prop} {us:List (Key×Ent)} {o:Oper}
theorem qg4{k k2 k':FV}(h:keq k k2=true):keq k' k2=keq k' k:=by
 have one:∀ {a b:FV},keq1 a b=true->∀c,keq1 c b=keq1 c a:=by
  intro a b h c;cases a <;> cases b <;> simp only[keq1,Bs,Bv]at h
  ·subst h;cases c <;> rfl
  ·subst h;cases c <;> rfl
  ·cases c <;> simp[keq1,h]
 have all:∀ {as bs:List FV},keqs as bs=true->∀cs,keqs cs bs=keqs cs as:=by
  intro as
  induction as with
  |nil=>intro bs h cs;cases bs <;> simp_all[keqs]
  |cons a as ih =>
   intro bs h cs;cases bs with
   |nil=>simp[keqs]at h
   |cons b bs =>
    simp only[keqs,Ai]at h;cases cs with
    |nil=>rfl
    |cons c cs=>simp only[keqs,one h.1 c,ih h.2 cs]
 exact all h _
theorem gets_ty'{t:TypeId}{f:TyI->RT}(h:Gets (ty E t f) M us):∃i,E.ty t=some i/\Gets (f i) M us:=by
 unfold ty at h;cases hi:E.ty t with
 |none=>rw[hi]at h;exact(qg h).elim
 |some i=>rw[hi]at h;exact⟨i,rfl,h⟩
theorem qjv{t:TypeId}{f:TyI->TyI->RT}(hE:q14 E)(h:Gets (mapTy E t f) M us) :
  ∃kt et ki ei inf d z,E.P.underlying t=some (.map kt et)/\chkKey E.P kt ki=true/\TyOk E.P et ei inf d z/\Gets (f ki ei) M us:=by
 unfold mapTy at h;obtain⟨i,hi,h⟩:=gets_ty' h;have hm:=hE.mapk t i hi;split at h
 ·rename_i h1 h2;obtain⟨ki,hki,h⟩:=gets_ty' h;obtain⟨ei,hei,h⟩:=gets_ty' h;obtain⟨inf,d,z,hT⟩:=q8i (hE.ty _ _ hei);simp only[chkMap,h1,h2,hki,Ai]at hm;obtain⟨m1,m2⟩:=hm;split at m1
  ·rename_i kt et hu;simp only[Ai]at m1;have e1:=Aw m1.1;have e2:=Aw m1.2;refine⟨kt,et,ki,ei,inf,d,z,hu,?_,?_,h⟩
   ·rw[e1];exact m2
   ·rw[e2];exact hT
  ·simp at m1
 ·exact(qg h).elim
theorem SRep.mp_inv{hd:Nat->Option Ent}{id:Nat}{v:Value}{kag:Bool}{ks:List CK}{z:FV}(h:SRep w S γ hd (.mp id) v)(he:hd id=some (.mapH kag ks z)):v=.map (some (γ id).blk):=by
 cases h with
 |mp h _=>rfl
 |tomb hs h=>simp[SV.refId]at hs;subst hs;rw[he]at h;cases h
theorem qaj{t:TypeId}{m:SV}{mv:Value}{f:Nat->TyI->Bool->List CK->FV->RT}(hE:q14 E)(hm:SRep w S γ (hdOf M) m mv)(h:Gets (q6p E t m f) M us) :
  ∃id kt et ki ei inf d z,m=.mp id/\mv=.map (some (γ id).blk)/\hdOf M id=some (.mapH ki.agg ki.ck ei.q1e)/\E.P.underlying t=some (.map kt et)/\chkKey E.P kt ki=true/\TyOk E.P et ei inf d z /\
   Gets (f id ei ki.agg ki.ck ei.q1e) M us:=by
 unfold q6p at h;obtain⟨kt,et,ki,ei,inf,d,z,h1,h2,h3,h⟩:=qjv hE h;split at h
 ·rename_i id _h;obtain⟨e,he,h⟩:=q2u h;split at h
  ·obtain⟨hb,h⟩:=q15 h;obtain⟨rfl,rfl,rfl⟩:=qfb hb;exact⟨id,kt,et,ki,ei,inf,d,z,rfl,hm.mp_inv he,he,h1,h2,h3,h⟩
  ·exact(qg h).elim
 ·exact(qg h).elim
theorem q4l.frep{us:List (Key×Ent)}{s:SV}{x:FV}(hz:q4l M us s x)(hf:qv M us)(h:Rel X (us++M) a w γ S){v:Value}(hv:SRep w S γ (hdOf (us++M)) s v):FRep w S x v:=by
 obtain⟨h1,h2⟩:=hz.rep hf h hv;rcases hz with⟨cs,xs,rfl,rfl,h3,h4⟩ | ⟨q1,q2⟩
 ·obtain⟨vs,rfl,hl,hr⟩:=hv.qaf;refine .ofCells (by rw[hl,h3]) λj c hj=>?_;obtain⟨u,q1,q2,_⟩:=h2 j c hj;exact⟨u,q1,q2⟩
 ·exact(q2.rep hf h hv).1
theorem gets_keyOf'(h:Rel X M a w γ S){kag:Bool}{ks:List CK}{s:SV}{v:Value}(hs:SRep w S γ (hdOf M) s v){f:FV->RT}(hg:Gets (keyOf' kag ks s f) M us):∃k,q2k kag ks k=true/\FRep w S k v/\Gets (f k) M us:=by
 unfold keyOf' at hg;obtain⟨x,fz,h1,h2,hg⟩:=qdn hg;split at hg
 ·obtain⟨hb,hg⟩:=q15 hg;exact⟨x,hb,h2.frep h1 h hs,hg⟩
 ·exact(qg hg).elim
theorem q9m{id c:Nat}{f:List FV->Int->RT}(hg:Gets (q5h id c f) M us):∃es clk,Mem.get (.cell id c) M=some (.map es clk)/\Gets (f es clk) M us:=by
 unfold q5h at hg;obtain⟨e,he,hg⟩:=q6i hg;split at hg
 ·exact⟨_,_,he,hg⟩
 ·exact(qg hg).elim
theorem valIs_inv{z v:FV}(h:q32 z v=true):v.isAgg=z.isAgg/\v.cells.length=z.cells.length/\∀c,c∈v.cells->c.flat=true:=by
 simp only[q32,Ai,Av]at h;refine⟨?_,Aw h.1.2,h.2⟩;have:=h.1.1;cases hz:z.isAgg <;> cases hv:v.isAgg <;> simp_all
theorem qjw{t:TypeId}{ti:TyI}{inf:TypeInfo}{d:TypeDesc}{z:Value}(hT:TyOk E.P t ti inf d z){x:FV}{v:Value}(hx:q32 ti.q1e x=true)(hv:FRep w S x v){f:SV->RT}(hg:Gets (q7r ti [x] 0 0 f) M us) :
  ∃s,SRep w S γ (hdOf M) s v/\Gets (f s) M us:=by
 obtain⟨x1,x2,x3⟩:=valIs_inv hx;rw[hT.zeroCells,TyI.q28,Aa]at x2;unfold q7r at hg;cases ha:ti.agg with
 |true =>
  rw[ha]at hg;obtain⟨ss,h1,h2,hg2⟩:=qg5 hg;have hag:x.isAgg=true:=by rw[x1];simp[TyI.q1e,ha,FV.isAgg]
  cases x <;> simp only[FV.isAgg,Bs]at hag;rename_i cs;simp only[FV.cells]at x2;cases hv with
  |agg _ vs hs h =>
   refine⟨.agg ss,.agg (by rw[hs,x2,h1]) λj s hj=>?_,hg2⟩;obtain⟨_,e,h3,h4⟩:=h2 j s hj;simp only[at',Aj,Ae,FV.cells,AG]at h3;exact h4 _ _ _ _ _ (h j e h3)
 |false =>
  rw[ha]at hg;obtain⟨k,hk,_⟩:=hT.one ha;simp only[Ab,hk]at hg;obtain⟨e,s,h1,h2,h3,hg⟩:=qg6 hg;have hag:x.isAgg=false:=by
   rw[x1];simp only[TyI.q1e,ha,TyI.q28,hk];cases k <;> rfl
  have hc:x.cells=[x]:=by cases x <;> first | rfl | simp[FV.isAgg]at hag
  simp only[at',Aj,Ae,hc,AH]at h1;subst h1;exact⟨s,h3 _ _ _ _ _ hv,hg⟩
theorem qg7{t:TypeId}{ti:TyI}{inf:TypeInfo}{d:TypeDesc}{z:Value}(hT:TyOk E.P t ti inf d z):FRep w S ti.q1e z/\q32 ti.q1e ti.q1e=true:=by
 have hfl:∀c,c∈ti.q28->c.flat=true:=λc hc=>by
  obtain⟨j,hj⟩:=Bu.1 hc;simp only[TyI.q28,Br,BY]at hj;obtain⟨k,hk,rfl⟩:=hj;obtain⟨v,h1,h2,h3,h4⟩:=q95 (w:=w) (S:=S) hT.q28 j k hk;cases k <;> try rfl
  cases h2;exact h4
 refine⟨?_,?_⟩
 ·have hz:=qa8 hT.q28;cases ha:ti.agg with
  |true =>
   have hza:=hT.zagg;rw[ha]at hza;cases z <;> simp only[isAgg',Bool.true_eq_false]at hza;rename_i vs;rw[TyI.q1e,ha,Ac];refine .ofCells (by simpa[TyI.q28,Value.cells]using hz) λj c hj=>?_;simp only[TyI.q28,Br,BY]at hj;obtain⟨k,hk,rfl⟩:=hj;obtain⟨v,h1,h2,_⟩:=q95 (w:=w) (S:=S) hT.q28 j k hk;exact⟨v,by simpa[Value.cells]using h1,h2⟩
  |false =>
   obtain⟨k,hk,_⟩:=hT.one ha;obtain⟨v,h1,h2,_,h4⟩:=q95 (w:=w) (S:=S) hT.q28 0 k (by simp[hk]);have hza:=hT.zagg;rw[ha]at hza;have hzc:z.cells=#[z]:=by cases z <;> first | rfl | simp[isAgg']at hza
   rw[hzc]at h1;simp at h1;subst h1;simpa[TyI.q1e,ha,TyI.q28,hk]using h2
 ·simp only[q32,Ai,Av];refine⟨⟨?_,by simp⟩,λc hc=>hfl c (by rwa[hT.zeroCells]at hc)⟩;cases h:ti.q1e.isAgg <;> simp
theorem qak{id:Nat}{kag:Bool}{ks:List CK}{z:FV}(h:Rel X M a w γ S)(he:hdOf M id=some (.mapH kag ks z)) :
  ∃es clk es' clk',Mem.get (.cell id 0) M=some (.map es clk)/\Mem.get (.cell id 1) M=some (.map es' clk')/\(∀k,mgetD es' k z=mgetD es k z)/\MRep w S (γ id) kag ks z es clk:=(h.head id _ he).2
theorem mget_rep{kag:Bool}{ks:List CK}{z k:FV}{zv:Value}{es:List FV}{l:List MapEntry}(hm:All2 (ERep w S kag ks z) es l)(hz:FRep w S z zv)(hzz:q32 z z=true) :
  q32 z (mgetD es k z)=true/\∃v,FRep w S (mgetD es k z) v/\(match fnd k es l 0 with | some (_,v)=>v | none=>zv)=v/\mhas es k=(fnd k es l 0).isSome:=by
 rcases q9l (k:=k) (i:=0) hm with⟨a,b,c,_⟩ | ⟨j,x,e,a,_,_,d,_,g,p,_⟩
 ·rw[c z,a,b];exact⟨hzz,zv,hz,rfl,rfl⟩
 ·rw[p z,a,g];obtain⟨_,_,q1,q2,_⟩:=d.key;exact⟨q1,e.val,q2,rfl,rfl⟩
theorem run_lookup'{t kt et:TypeId}{ki ei:TyI}{inf:TypeInfo}{d:TypeDesc}{zv:Value}(hu:E.P.underlying t=some (.map kt et))(hc:chkKey E.P kt ki=true)(hT:TyOk E.P et ei inf d zv){b:Nat}{arr:Array MapEntry}{c:Nat}
  (hb:w.heap[b]?=some (.map arr c)) {k:FV} {kv:Value} (hk:q2k ki.agg ki.ck k=true) (hkv:FRep w S k kv) {es:List FV} (hm:All2 (ERep w S ki.agg ki.ck ei.q1e) es arr.toList) (ok:Bool) :
  ∃v,(Instr.lookup t (.map (some b)) kv ok).run E.P w=.ok (if ok then .tuple #[v,.bool (mhas es k)]else v) w/\FRep w S (mgetD es k ei.q1e) v/\q32 ei.q1e (mgetD es k ei.q1e)=true:=by
 obtain⟨hz,hzz⟩:=qg7 (w:=w) (S:=S) hT;obtain⟨h1,v,h2,h3,h4⟩:=mget_rep (k:=k) hm hz hzz;refine⟨v,?_,h2,h1⟩;have hf:=run_findKey' (w':=w) hc hk hkv hm;have hck:=run_checkKey' (w':=w) arr.isEmpty hc hk hkv;simp only[Instr.lookup,Sem.run_bind,run_underlying hu,Result.andThen_ok,MapKept.run_getObj_map hb,Sem.run_pure,hck,hf];cases hfn:fnd k es arr.toList 0 with
 |none =>
  rw[hfn]at h3 h4;simp only[Option.isSome_none]at h4;simp only at h3;subst h3;simp[hT.runZ,h4]
 |some p =>
  obtain⟨j,u⟩:=p;rw[hfn]at h3 h4;simp only[Option.isSome_some]at h4;simp only at h3;subst h3;simp[h4]
theorem qqi{t:TypeId}{x y:Operand}{ok:Bool}(hE:q14 E)(h:Rel X M a w γ S)(hd:∀d,o.dst=some d->X.Dst d)(hop:o.op=.lookup t x y ok)(hg0:Gets (rtOp E call o) M us):Goal E.P X M o a w us:=by
 unfold rtOp at hg0;simp only[hop]at hg0;obtain⟨m,hm,hg⟩:=q1j h hg0;obtain⟨ks,hks,hg⟩:=q1j h hg;obtain⟨id,kt,et,ki,ei,inf,d,z,rfl,hmv,he,hu,hc,hT,hg⟩:=qaj hE hm hg;obtain⟨k,hk,hkv,hg⟩:=gets_keyOf' h hks hg;obtain⟨es,clk,es',clk',c0,c1,hview,arr,c,hb,rfl,_,_,hall⟩:=qak h he;obtain⟨v,hrun,hv,hval⟩:=run_lookup' hu hc hT hb hk hkv hall ok;cases ok with
 |false =>
  obtain⟨es2,clk2,q,hg⟩:=q9m hg;rw[c1]at q;cases q;rw[hview k]at hg;obtain⟨s,hs,hg⟩:=qjw hT hval hv hg;exact .q1i (v:=v) (by simp only[Bs,BM]at hrun;simp[execOp,hop,hmv,hrun]) (q1c h hd hs hg)
 |true =>
  obtain⟨es2,clk2,q,hg⟩:=q9m hg;rw[c0]at q;cases q;obtain⟨s,hs,hg⟩:=qjw hT hval hv hg;refine .q1i (v:=.tuple #[v,.bool (mhas es k)]) (by simp only[Ba]at hrun;simp[execOp,hop,hmv,hrun]) (q1c h hd (.tup (by simp) λj s' hj=>?_) hg)
  match j with
  |0=>simp at hj;subst hj;exact hs
  |1=>simp at hj;subst hj;exact .fv (.bool _)
  |j+2=>simp at hj
end
end Rf
end
section
namespace Rf
open Go
section
variable {w:World} {S:Nat->Prop}
theorem key_one{kag:Bool}{ks:List CK}{x y:FV}{v:Value}(hx:q2k kag ks x=true)(hy:q2k kag ks y=true)(hv:FRep w S x v)(hu:FRep w S y v):x=y:=by
 cases kag with
 |false =>
  obtain⟨c,rfl,h1,_⟩:=q6o hx;obtain⟨c',hc,h2,_⟩:=q6o hy;cases hc;exact qg2 h1 h2 hv hu
 |true =>
  obtain⟨cs,rfl,h1⟩:=q8j hx;obtain⟨ds,rfl,h2⟩:=q8j hy;obtain⟨vs,rfl,c1⟩:=qbk hv;obtain⟨us,hu',c2⟩:=qbk hu;cases hu';have key:∀ {ks:List CK} {cs ds:List FV} {j:Nat},kfits ks cs=true->kfits ks ds=true->q7q w S cs j vs->q7q w S ds j vs->cs=ds:=by
   intro ks
   induction ks with
   |nil=>intro cs ds j h1 h2 _ _;cases cs <;> cases ds <;> simp_all[kfits]
   |cons c ks ih =>
    intro cs ds j h1 h2 q1 q2;cases cs with
    |nil=>simp[kfits]at h1
    |cons x cs =>
     cases ds with
     |nil=>simp[kfits]at h2
     |cons y ds =>
      simp only[kfits,Ai]at h1 h2;obtain⟨v,a1,a2⟩:=q1 0 x rfl;obtain⟨u,b1,b2⟩:=q2 0 y rfl;rw[a1]at b1;cases b1;rw[qg2 h1.1 h2.1 a2 b2,ih h1.2 h2.2 q1.tail q2.tail]
  rw[key h1 h2 c1 c2]
theorem All2.getR'{α β:Type}{R:α->β->Prop}{xs:List α}{ys:List β}(h:All2 R xs ys):∀(j:Nat) (y:β),ys[j]?=some y->∃x,xs[j]?=some x/\R x y:=by
 induction h with
 |nil=>intro j x hj;simp at hj
 |cons h _ ih =>
  intro j x hj;cases j with
  |zero=>simp at hj;subst hj;exact⟨_,rfl,h⟩
  |succ j=>simpa using ih j x (by simpa using hj)
theorem qjx{kag:Bool}{ks:List CK}{z k:FV}{kv:Value}(hk:q2k kag ks k=true)(hkv:FRep w S k kv){es:List FV}{l:List MapEntry}(h:All2 (ERep w S kag ks z) es l)(hn:∀e,e∈es->keq k (entKey e)=false) :
  ∀x∈l,x.key≠kv:=by
 intro x hx he;obtain⟨j,hj⟩:=Bu.1 hx;obtain⟨e,h1,h2⟩:=h.getR' j x hj;obtain⟨q1,q2,_⟩:=h2.key;rw[he]at q2;have:=hn e (AQ h1);rw[(qah hk q1).2 (key_one hk q1 hkv q2)]at this;cases this
theorem But.setBlock(w:World)(b:Nat)(ob:Obj):But b w { w with heap:=w.heap.setIfInBounds b ob } :=
 ⟨by simp,λk hk _=>by simp only[Array.getElem?_setIfInBounds];rw[if_neg (BR hk)],rfl,rfl,rfl⟩
end
section
variable {E:Env} {call:FuncId->List FV->Res} {X:Cx} {M:Mem} {a:Act} {w:World} {γ:Nat->Gh} {S:Nat->Prop} {us:List (Key×Ent)} {o:Oper}
theorem Rel.qjy(h:Rel X M a w γ S){id:Nat}{kag:Bool}{ks:List CK}{z:FV}(he:hdOf M id=some (.mapH kag ks z)){M':Mem}(hM:q3z id M M')(he':hdOf M' id=some (.mapH kag ks z))
  {es es2:List FV} {clk2:Int} {arr:Array MapEntry} {c:Nat} (g0:Mem.get (.cell id 0) M'=some (.map es c)) (g1:Mem.get (.cell id 1) M'=some (.map es2 clk2)) (hv:∀k,mgetD es2 k z=mgetD es k z)
  (hs:MapKept.Stamped arr c) (hzz:q32 z z=true) (hall:All2 (ERep w S kag ks z) es arr.toList):Rel X M' a { w with heap:=w.heap.setIfInBounds (γ id).blk (.map arr c) } γ S:=by
 have own:=h.own id _ he trivial;have hb:=But.setBlock w (γ id).blk (.map arr c);have hw:=h.toHRel.q8e hb own.2.1;have hn:=(h.head id _ he).1;refine h.change hM he trivial he' ⟨rfl,rfl,by simp⟩ hb (λhh=>⟨hn,es,c,es2,clk2,g0,g1,hv,arr,c,?_,rfl,hs,hzz,hall.mono λ_ _ q=>q.mono hw (λ_ h=>h)⟩) trivial;simp[own.1]
theorem qqj{id:Nat}{e0 e1:Ent}{M:Mem}:q3z id M ((.cell id 0,e0)::(.cell id 1,e1)::M):=by
 refine⟨λi hi=>?_,λi j hi=>?_,λt=>?_⟩
 ·rw[hdOf,hdOf,Mem.qj,if_neg (by simp),Mem.qj,if_neg (by simp)]
 ·rw[Mem.qj,if_neg (by simp[hi]),Mem.qj,if_neg (by simp[hi])]
 ·rw[Mem.qj,if_neg (by simp),Mem.qj,if_neg (by simp)]
theorem qqk{id:Nat}{e0:Ent}{M:Mem}:q3z id M ((.cell id 0,e0)::M):=by
 refine⟨λi hi=>?_,λi j hi=>?_,λt=>?_⟩
 ·rw[hdOf,hdOf,Mem.qj,if_neg (by simp)]
 ·rw[Mem.qj,if_neg (by simp[hi])]
 ·rw[Mem.qj,if_neg (by simp)]
theorem Rel.qg8(h:Rel X M a w γ S){id:Nat}{kag:Bool}{ks:List CK}{z:FV}(he:hdOf M id=some (.mapH kag ks z)){es:List FV}{arr:Array MapEntry}{c:Nat}{clk:Int}(hclk:clk=c)
  (hs:MapKept.Stamped arr c) (hzz:q32 z z=true) (hall:All2 (ERep w S kag ks z) es arr.toList):Rel X (q3r id es clk M) a { w with heap:=w.heap.setIfInBounds (γ id).blk (.map arr c) } γ S:=by
 subst hclk;refine h.qjy (M':=(.cell id 0,.map es c)::(.cell id 1,.map es c)::M) he qqj (by rw[hdOf,Mem.qj,if_neg (by simp),Mem.qj,if_neg (by simp)];exact he) (es:=es) (es2:=es) (clk2:=c) (by rw[Mem.qj,if_pos rfl]) (by rw[Mem.qj,if_neg (by simp),Mem.qj,if_pos rfl]) (λ_=>rfl) hs hzz hall
theorem qjz(id:Nat)(es:List FV)(clk:Int)(us:List (Key×Ent)):q3r id es clk us++M=q3r id es clk (us++M):=rfl
theorem qv.mapH{fz:List (Key×Ent)}(h:qv M fz){id:Nat}{kag:Bool}{ks:List CK}{z:FV}(he:hdOf M id=some (.mapH kag ks z)) :
  hdOf (fz++M) id=some (.mapH kag ks z)/\∀j,Mem.get (.cell id j) (fz++M)=Mem.get (.cell id j) M:=by
 refine⟨?_,λj=>?_⟩
 ·rcases h.get (.head id)with⟨q,_⟩ | ⟨id',s,xs,q1,q2,q3⟩
  ·rw[hdOf,q];exact he
  ·cases q1;rcases q3 with q3 | q3 <;> rw[he]at q3 <;> cases q3
 ·rcases h.get (.cell id j)with⟨q,_⟩ | ⟨id',s,xs,q1,q2,q3⟩
  ·exact q
  ·cases q1
theorem mput_rep{kag:Bool}{ks:List CK}{z k y:FV}{kv yv:Value}{es:List FV}{arr:Array MapEntry}{c:Nat}(hall:All2 (ERep w S kag ks z) es arr.toList)(hs:MapKept.Stamped arr c)(hk:q2k kag ks k=true)(hkv:FRep w S k kv)
  (hy:q32 z y=true) (hyv:FRep w S y yv) :
  ∃arr' c',(match fnd k es arr.toList 0 with | some (i,_)=>(arr.modify i λe=>{ e with key:=kv,val:=yv },c) | none=>(arr.push { key:=kv,val:=yv,born:=c },c+1))=(arr',c') /\
   mclk es k c=(c':Int)/\MapKept.Stamped arr' c'/\All2 (ERep w S kag ks z) (mput es k y c) arr'.toList:=by
 rcases q9l (k:=k) (i:=0) hall with⟨h1,h2,_,h4⟩ | ⟨j,x,e,h1,h2,h3,h4,h5,h6,_,h8⟩
 ·rw[h1];refine⟨_,_,rfl,by simp[mclk,h2],MapKept.stamped_push hs (qjx hk hkv hall h4),?_⟩;rw[(qbl h4 y c).1,Array.toList_push];exact hall.app (.cons ⟨k,y,rfl,hk,hy,hkv,hyv⟩ .nil)
 ·rw[h1];obtain⟨q1,q2,q3,q4,q5⟩:=h4.key;have hkx:k=entKey x:=(qah hk q1).1 h5;have hkk:e.key=kv:=by rw[<- hkx]at q2;exact(qg1 hk q2 hkv).1
  simp only[AG];refine⟨_,_,rfl,by simp[mclk,h6],MapKept.stamped_modify hs _ _ (λ_ _=>rfl) (λe' _ he'=>?_),?_⟩
  ·have:arr[j]?=some e:=by simpa using h3
   rw[this]at he';cases he';exact hkk.symm
  ·rw[(h8 y c).2.1,qg3 arr j e _ h3];exact hall.set ⟨k,y,by rw[q5],hk,hy,hkv,hyv⟩ j
theorem qk0{t:TypeId}{m k x:Operand}(hE:q14 E)(h:Rel X M a w γ S)(hop:o.op=.mapUpdate t m k x\/o.op=.insert t m k x)(hg0:Gets (rtOp E call o) M us):Goal E.P X M o a w us:=by
 have hg1:Gets (opd m λm=>opd k λk=>opd x λx=>q6p E t m λid _ kag ks z=>keyOf' kag ks k λk=>frz x λy us =>
  bif q32 z y&&o.dst.isNone then q5h id 0 λes clk=>.ret (q3r id (mput es k y clk) (mclk es k clk) us)else .fail) M us:=by
  rcases hop with hop | hop <;> (unfold rtOp at hg0;simp only[hop]at hg0;exact hg0)
 clear hg0;have hex:∀w',(Instr.mapUpdate t (a.eval m) (a.eval k) (a.eval x)).run E.P w=.ok () w'->(execOp a.eval o).run E.P w=.ok .skip w':=λw' hw=>by
  rcases hop with hop | hop <;> simp[execOp,hop,hw]
 obtain⟨sm,hm,hg⟩:=q1j h hg1;obtain⟨sk,hks,hg⟩:=q1j h hg;obtain⟨sx,hx,hg⟩:=q1j h hg;obtain⟨id,kt,et,ki,ei,inf,d,z,rfl,hmv,he,hu,hc,hT,hg⟩:=qaj hE hm hg;obtain⟨kf,hk,hkv,hg⟩:=gets_keyOf' h hks hg;obtain⟨y,fz,hfz,hyo,hg⟩:=qdn hg;obtain⟨hb,hg⟩:=q15 hg;simp only[Ai,FC]at hb;obtain⟨hval,hdst⟩:=hb;obtain⟨es,clk,c0,hg⟩:=q9m hg;have hus:=q2s hg;subst hus;obtain⟨S',k1,_,hR⟩:=h.q8h hfz;obtain⟨m1,m2⟩:=hfz.mapH he;obtain⟨es1,clk1,es',clk',d0,d1,_,arr,c,hbk,hclk,hst,hzz,hall⟩:=qak hR m1;rw[m2 0,c0]at d0;cases d0;have hkv':FRep w S' kf (a.eval k):=hkv.mono (λ_ _=>rfl) k1;have hyv:FRep w S' y (a.eval x):=hyo.frep hfz hR (hx.mono (λ_ _=>rfl) k1 hfz.hdLe);obtain⟨arr',c',p1,p2,p3,p4⟩:=mput_rep hall hst hk hkv' hval hyv;have hf:=run_findKey' (w':=w) hc hk hkv' hall;have hck:=run_checkKey' (w':=w) false hc hk hkv';refine .skip (γ':=γ) (S':=S') (hex _ ?_) (by rw[hdst,qjz];exact hR.qg8 m1 (by rw[hclk];exact p2) p3 hzz (by rw[hclk];exact p4));rw[hmv];simp only[Instr.mapUpdate,Sem.run_bind,run_underlying hu,Result.andThen_ok,MapKept.run_getObj_map hbk,hck,hf];rcases q9l (k:=kf) (i:=0) hall with⟨h1,h2,_,h4⟩ | ⟨j,x',e,h1,h2,h3,h4,h5,h6,_,h8⟩
 ·rw[h1]at p1 ⊢;cases p1;simp only[MapKept.run_setObj_map _ hbk]
 ·rw[h1]at p1 ⊢;simp only[AG]at p1 ⊢;cases p1;obtain⟨q1,q2,_⟩:=h4.key;have hkx:kf=entKey x':=(qah hk q1).1 h5;rw[<- hkx]at q2;have hj:arr[j]?=some e:=by simpa using h3
  simp only[Sem.run_bind,hj,AE,Bg,qjq hk q2 hkv',Result.andThen_ok,MapKept.run_setObj_map _ hbk]
theorem ment_rep{kag:Bool}{ks:List CK}{z k:FV}{kv zv:Value}{es:List FV}{arr:Array MapEntry}{c:Nat}(hall:All2 (ERep w S kag ks z) es arr.toList)(hs:MapKept.Stamped arr c)(hk:q2k kag ks k=true)(hkv:FRep w S k kv)
  (hzz:q32 z z=true) (hzv:FRep w S z zv) :
  ∃arr' c',(match fnd k es arr.toList 0 with | some (i,_)=>(arr.modify i λe=>{ e with key:=kv },c) | none=>(arr.push { key:=kv,val:=zv,born:=c },c+1))=(arr',c') /\
   mclk es k c=(c':Int)/\MapKept.Stamped arr' c'/\All2 (ERep w S kag ks z) (ment es k z c) arr'.toList:=by
 rcases q9l (k:=k) (i:=0) hall with⟨h1,h2,_,h4⟩ | ⟨j,x,e,h1,h2,h3,h4,h5,h6,_,h8⟩
 ·rw[h1];refine⟨_,_,rfl,by simp[mclk,h2],MapKept.stamped_push hs (qjx hk hkv hall h4),?_⟩;rw[(qbl h4 z c).2.1,Array.toList_push];exact hall.app (.cons ⟨k,z,rfl,hk,hzz,hkv,hzv⟩ .nil)
 ·rw[h1];obtain⟨q1,q2,q3,q4,q5⟩:=h4.key;have hkx:k=entKey x:=(qah hk q1).1 h5;have hkk:e.key=kv:=by rw[<- hkx]at q2;exact(qg1 hk q2 hkv).1
  simp only[AG];refine⟨_,_,rfl,by simp[mclk,h6],MapKept.stamped_modify hs _ _ (λ_ _=>rfl) (λe' _ he'=>?_),?_⟩
  ·have:arr[j]?=some e:=by simpa using h3
   rw[this]at he';cases he';exact hkk.symm
  ·rw[(h8 z c).2.2.1,qg3 arr j e (λe=>{ e with key:=kv }) h3];have hr:ERep w S kag ks z (.agg [k,q4x x,.int .i64 (entBorn x)]) { e with key:=kv }:=⟨k,q4x x,by rw[q5],hk,q3,hkv,q4⟩;exact hall.set hr j
theorem qql{t:TypeId}{m k:Operand}(hE:q14 E)(h:Rel X M a w γ S)(hd:∀d,o.dst=some d->X.Dst d)(hop:o.op=.mapEntry t m k)(hg0:Gets (rtOp E call o) M us):Goal E.P X M o a w us:=by
 unfold rtOp at hg0;simp only[hop]at hg0;obtain⟨sm,hm,hg⟩:=q1j h hg0;obtain⟨sk,hks,hg⟩:=q1j h hg;obtain⟨id,kt,et,ki,ei,inf,d,z,rfl,hmv,he,hu,hc,hT,hg⟩:=qaj hE hm hg;obtain⟨kf,hk,hkv,hg⟩:=gets_keyOf' h hks hg;obtain⟨es,clk,c0,hg⟩:=q9m hg;split at hg
 ·rename_i dd hdst;have hus:=q2s hg;subst hus;obtain⟨es1,clk1,es',clk',d0,d1,hview,arr,c,hbk,rfl,hst,hzz,hall⟩:=qak h he;rw[c0]at d0;cases d0;obtain⟨hz,_⟩:=qg7 (w:=w) (S:=S) hT;obtain⟨arr',c',p1,p2,p3,p4⟩:=ment_rep hall hst hk hkv hzz hz;have hR:=h.qjy he (M':=(.cell id 0,.map (ment es kf ei.q1e c) (mclk es kf c))::M) qqk (by rw[hdOf,Mem.qj,if_neg (by simp)];exact he) (es:=ment es kf ei.q1e c) (es2:=es') (clk2:=clk') (arr:=arr') (c:=c')
   (by rw[Mem.qj,if_pos rfl,p2]) (by rw[Mem.qj,if_neg (by simp)];exact d1) (λk'=>by rw[hview k',qju k' λk2 h2=>qg4 h2]) p3 hzz p4
  have hf:=run_findKey' (w':=w) hc hk hkv hall;have hck:=run_checkKey' (w':=w) false hc hk hkv;have fin:∀v,(Instr.mapEntry t (.map (some (γ id).blk)) (a.eval k)).run E.P w=.ok (.tuple #[v,goInt (mborn es kf c)]) { w with heap:=w.heap.setIfInBounds (γ id).blk (.map arr' c') }->Goal E.P X M o a w
    ((.slot dd,.sv (.tup [.dead,.fv (.int .i64 (mborn es kf c))]))::[(.cell id 0,.map (ment es kf ei.q1e c) (mclk es kf c))]):=λv hv=>by
   refine .value (v:=.tuple #[v,goInt (mborn es kf c)]) (w':={ w with heap:=w.heap.setIfInBounds (γ id).blk (.map arr' c') }) (γ':=γ) (S':=S) (by simp[execOp,hop,hmv,hv]) ?_;rw[hdst];refine hR.put (hd dd hdst) (.tup (by simp) λj s hj=>?_)
   match j with
   |0=>simp at hj;subst hj;exact .dead
   |1=>simp at hj;subst hj;exact .fv (.int _ _)
   |j+2=>simp at hj
  rcases q9l (k:=kf) (i:=0) hall with⟨h1,h2,_,h4⟩ | ⟨j,x',e,h1,h2,h3,h4,h5,h6,_,h8⟩
  ·refine fin z ?_;rw[h1]at p1;cases p1;rw[(qbl h4 ei.q1e c).2.2.1];simp only[Instr.mapEntry,Sem.run_bind,run_underlying hu,Result.andThen_ok,MapKept.run_getObj_map hbk,hck,hf,h1,hT.runZ,MapKept.run_setObj_map _ hbk,Sem.run_pure]
  ·refine fin e.val ?_;rw[h1]at p1;simp only[AG]at p1;cases p1;obtain⟨q1,q2,_,_,q5⟩:=h4.key;have hkx:kf=entKey x':=(qah hk q1).1 h5;rw[<- hkx]at q2;have hj:arr[j]?=some e:=by simpa using h3
   rw[(h8 ei.q1e c).1,q5];simp only[Instr.mapEntry,Sem.run_bind,run_underlying hu,Result.andThen_ok,MapKept.run_getObj_map hbk,hck,hf,h1,AG,hj,AE,Bg,qjq hk q2 hkv,MapKept.run_setObj_map _ hbk,Sem.run_pure]
 ·exact(qg hg).elim
theorem run_asInt{P:Program}(k:IntKind)(n:Int)(w:World):(Go.asInt (.int k n)).run P w=.ok n w:=rfl
theorem qqm{t:TypeId}{m s x:Operand}(hE:q14 E)(h:Rel X M a w γ S)(hop:o.op=.entryStore t m s x)(hg0:Gets (rtOp E call o) M us):Goal E.P X M o a w us:=by
 unfold rtOp at hg0;simp only[hop]at hg0;obtain⟨sm,hm,hg1⟩:=q1j h hg0;obtain⟨ss,hss,hg2⟩:=q1j h hg1;obtain⟨sx,hx,hg3⟩:=q1j h hg2;obtain⟨id,kt,et,ki,ei,inf,d,z,rfl,hmv,he,hu,hc,hT,hg⟩:=qaj hE hm hg3;clear hg0 hg1 hg2 hg3;split at hg
 ·rename_i kk b;have hsv:=hss.q22;obtain⟨y,fz,hfz,hyo,hg⟩:=qdn hg;obtain⟨hb,hg⟩:=q15 hg;simp only[Ai,FC]at hb;obtain⟨hval,hdst⟩:=hb;obtain⟨es,clk,c0,hg⟩:=q9m hg;rcases q6m hg with⟨hhas,hg⟩ | ⟨_,hg⟩
  ·have hus:=q2s hg;subst hus;obtain⟨S',k1,_,hR⟩:=h.q8h hfz;obtain⟨m1,m2⟩:=hfz.mapH he;obtain⟨es1,clk1,es',clk',d0,d1,_,arr,c,hbk,hclk,hst,hzz,hall⟩:=qak hR m1;rw[m2 0,c0]at d0;cases d0;have hyv:FRep w S' y (a.eval x):=hyo.frep hfz hR (hx.mono (λ_ _=>rfl) k1 hfz.hdLe);obtain⟨j,e,p1,p2,p3⟩:=qjt hval hyv hall hhas;have hj:arr[j]?=some e:=by simpa using p2
   refine .skip (γ':=γ) (S':=S') (w':={ w with heap:=w.heap.setIfInBounds (γ id).blk (.map (arr.modify j λe=>{ e with val:=a.eval x }) c) }) ?_ (by
    rw[hdst,qjz];refine hR.qg8 m1 hclk (MapKept.stamped_modify hst _ _ (λ_ _=>rfl) (λ_ _ _=>rfl)) hzz ?_
    rw[qg3 arr j e _ p2];exact p3)
   have hfi:arr.findIdx? (λe=>(e.born:Int)==b)=some j:=by rw[<- p1,<- List.findIdx?_toArray,FD]
   have hrun:(Instr.entryStore t (.map (some (γ id).blk)) (.int kk b) (a.eval x)).run E.P w=.ok () { w with heap:=w.heap.setIfInBounds (γ id).blk (.map (arr.modify j λe=>{ e with val:=a.eval x }) c) }:=by
    simp only[Instr.entryStore,Sem.run_bind,Result.andThen_ok,MapKept.run_getObj_map hbk,run_asInt,hfi,MapKept.run_setObj_map _ hbk]
   simp[execOp,hop,hmv,hsv,hrun]
  ·exact(qg hg).elim
 ·exact(qg hg).elim
theorem qqn{t:TypeId}(hE:q14 E)(h:Rel X M a w γ S)(hd:∀d,o.dst=some d->X.Dst d)(hop:o.op=.makeMap t none)(hg0:Gets (rtOp E call o) M us):Goal E.P X M o a w us:=by
 unfold rtOp at hg0;simp only[hop]at hg0;obtain⟨kt,et,ki,ei,inf,d,z,hu,hc,hT,hg⟩:=qjv hE hg0;split at hg
 ·rename_i dd hdst;obtain⟨hf,hg⟩:=q7h hg;have hus:=q2s hg;subst hus;have hM:q3z dd M ((.head dd,.mapH ki.agg ki.ck ei.q1e)::q3r dd [] 0 M):=by
   refine⟨λi hi=>?_,λi j hi=>?_,λt=>?_⟩
   ·rw[hdOf,hdOf,Mem.qj,if_neg (by simpa using hi),q3r,Mem.qj,if_neg (by simp),Mem.qj,if_neg (by simp)]
   ·rw[Mem.qj,if_neg (by simp),q3r,Mem.qj,if_neg (by simp[hi]),Mem.qj,if_neg (by simp[hi])]
   ·rw[Mem.qj,if_neg (by simp),q3r,Mem.qj,if_neg (by simp),Mem.qj,if_neg (by simp)]
  have he:hdOf ((.head dd,.mapH ki.agg ki.ck ei.q1e)::q3r dd [] 0 M) dd=some (.mapH ki.agg ki.ck ei.q1e):=by rw[hdOf,Mem.qj,if_pos rfl]
  have hb:But w.heap.size w (w.alloc (.map #[] 0)):=But.alloc w _;have hS:¬ S w.heap.size:=λhq=>EO _ (h.keep.bound _ hq)
  have hR:=h.gain (g:=⟨w.heap.size,0,0,false⟩) hf hM he hb hS (λi e h1 h2 hq=>by have:=(h.own i e h1 h2).1;simp only at hq;omega) (by simp) (.inr h.keep.size) (λhh=>by
   refine⟨by rw[Gh.q2x],[],0,[],0,by rw[Mem.qj,if_neg (by simp),q3r,Mem.qj,if_pos rfl],by rw[Mem.qj,if_neg (by simp),q3r,Mem.qj,if_neg (by simp),Mem.qj,if_pos rfl],λ_=>rfl,#[],0,by rw[Gh.q2x];exact qd6 w _,rfl,MapKept.stamped_empty 0,(qg7 (w:=w) (S:=S) hT).2,.nil⟩)
  refine .value (v:=.map (some w.heap.size)) (w':=w.alloc (.map #[] 0)) (γ':=Gh.upd γ dd ⟨w.heap.size,0,0,false⟩) (S':=S) (by simp[execOp,hop,show(Instr.makeMap t none).run E.P w=.ok (.map (some w.heap.size)) (w.alloc (.map #[] 0)) from rfl]) ?_;rw[hdst]
  exact hR.put (hd dd hdst) (s:=.mp dd) (by
   have:=SRep.mp (w:=w.alloc (.map #[] 0)) (S:=S) (γ:=Gh.upd γ dd ⟨w.heap.size,0,0,false⟩) he rfl
   rwa[Gh.q2x]at this)
 ·exact(qg hg).elim
theorem run_len_map{t kt et:TypeId}(hu:E.P.underlying t=some (.map kt et)){b:Nat}{arr:Array MapEntry}{c:Nat}(hb:w.heap[b]?=some (.map arr c))(ty:TypeId) :
  (Builtin.len_ #[t] ty #[.map (some b)]).run E.P w=.ok (goInt arr.size) w:=by
 simp[Builtin.len_,run_underlying hu,MapKept.run_getObj_map hb]
theorem qqo{t:TypeId}{s1 s2:SV}{v1 v2:Value}(hE:q14 E)(h:Rel X M a w γ S)(hd:∀d,o.dst=some d->X.Dst d)(h1:SRep w S γ (hdOf M) s1 v1)(h2:SRep w S γ (hdOf M) s2 v2){ats:Array TypeId}{r:List TypeId}(hats:ats.toList=t::r)
  (hg:Gets (q6p E t s1 λid _ kag ks _=>keyOf' kag ks s2 λk=>q5h id 0 λes clk=>out o.dst .dead (q3r id (mdel es k) clk [])) M us)
  (run:∀w',(Builtin.delete_ ats o.type #[v1,v2]).run E.P w=.ok (.tuple #[]) w'->(execOp a.eval o).run E.P w=.ok (.value (.tuple #[])) w'):Goal E.P X M o a w us:=by
 obtain⟨id,kt,et,ki,ei,inf,d,z,rfl,rfl,he,hu,hc,hT,hg⟩:=qaj hE h1 hg;obtain⟨kf,hk,hkv,hg⟩:=gets_keyOf' h h2 hg;obtain⟨es,clk,c0,hg⟩:=q9m hg;obtain⟨es1,clk1,es',clk',d0,d1,_,arr,c,hbk,hclk,hst,hzz,hall⟩:=qak h he;rw[c0]at d0;cases d0;have hf:=run_findKey' (w':=w) hc hk hkv hall;have hck:=run_checkKey' (w':=w) arr.isEmpty hc hk hkv;have hat0:ats[0]?=some t:=by rw[<- BA,hats];rfl
 have go:∀arr',MapKept.Stamped arr' c->All2 (ERep w S ki.agg ki.ck ei.q1e) (mdel es kf) arr'.toList->(Builtin.delete_ ats o.type #[.map (some (γ id).blk),v2]).run E.P w=.ok (.tuple #[]) { w with heap:=w.heap.setIfInBounds (γ id).blk (.map arr' c) }->Goal E.P X M o a w us:=λarr' q1 q2 q3=>by
  have hR:=h.qg8 he hclk q1 hzz q2;refine .value (v:=.tuple #[]) (run _ q3) (γ':=γ) (S':=S) ?_;unfold out at hg;cases hdst:o.dst with
  |none=>rw[hdst]at hg;rw[q2s hg];exact hR
  |some dd=>rw[hdst]at hg;rw[q2s hg];exact hR.put (hd dd hdst) .dead
 rcases q9l (k:=kf) (i:=0) hall with⟨h1,h2,_,h4⟩ | ⟨j,x',e,h1,h2,h3,h4,h5,h6,_,h8⟩
 ·refine go arr hst (by rw[(qbl h4 ei.q1e clk).2.2.2];exact hall) ?_;simp only[Builtin.delete_,hat0,Ds,Aj,AP,Sem.run_bind,run_underlying hu,Result.andThen_ok,MapKept.run_getObj_map hbk,hck,hf,h1,MapKept.run_setObj_map _ hbk,Sem.run_pure]
 ·refine go (arr.eraseIdxIfInBounds j) (MapKept.stamped_erase hst _) ?_ ?_
  ·have hlt:j<arr.size:=by have:=(Am.1 h3).1;simpa using this
   rw[(h8 ei.q1e clk).2.2.2,Array.eraseIdxIfInBounds,BZ hlt,Array.toList_eraseIdx];exact hall.erase j
  ·simp only[Builtin.delete_,hat0,Ds,Aj,AP,Sem.run_bind,run_underlying hu,Result.andThen_ok,MapKept.run_getObj_map hbk,hck,hf,h1,AG,MapKept.run_setObj_map _ hbk,Sem.run_pure]
end
end Rf
end
section
namespace Rf
open Go
theorem qqp{P:Program}(w:World)(t ty e:TypeId)(i:TypeInfo)(ht:P.underlying t=some (.slice e))(hi:P.info? e=some i)(base aa:Option Addr)(n cap c:Nat)(hc:n<=cap) :
  (Builtin.append_ #[t,t] ty #[.slice base n cap,.slice aa 0 c]).run P w=.ok (.slice base n cap) w:=by
 cases aa <;> cases base <;> simp[Builtin.append_,run_underlying ht,Go.sizeOf,typeInfo,hi,Builtin.lenOf,hc,Builtin.firstCells,loadCells,loadCellsFrom,storeCells]
section
variable {E:Env} {call:FuncId->List FV->Res} {X:Cx} {M:Mem} {a:Act} {w:World} {γ:Nat->Gh} {S:Nat->Prop} {us:List (Key×Ent)} {o:Oper}
theorem Rel.gainNil(h:Rel X M a w γ S){d sz:Nat}(hd:X.Dst d)(hf:hdOf M d=none) :
  Rel X ((.slot d,.sv (.sl d none))::(.head d,.vec sz [])::M) (a.put (some d) (.slice none 0 0)) w (Gh.upd γ d ⟨0,0,0,true⟩) S:=by
 have hne:∀i e,hdOf M i=some e->i≠d:=λi e h1 h2=>by rw[h2,hf]at h1;simp at h1
 have hM:∀i,i≠d->hdOf ((.head d,.vec sz [])::M) i=hdOf M i:=λi hi=>by rw[hdOf,hdOf,Mem.qj,if_neg (by simpa using hi)]
 have he:hdOf ((.head d,.vec sz [])::M) d=some (.vec sz []):=by rw[hdOf,Mem.qj,if_pos rfl]
 have hh:HdLe (hdOf M) (hdOf ((.head d,.vec sz [])::M)) γ (Gh.upd γ d ⟨0,0,0,true⟩):=λi e h1=>⟨e,by rw[hM i (hne i e h1)];exact h1,.inr ⟨rfl,rfl,λh=>h,Gh.q2z γ _ (hne i e h1)⟩⟩;have cases':∀i e',hdOf ((.head d,.vec sz [])::M) i=some e'->(i=d/\e'=.vec sz [])\/(i≠d/\hdOf M i=some e'):=λi e' h1=>by
  by_cases hi:i=d
  ·subst hi;rw[he]at h1;exact .inl ⟨rfl,by simpa using h1.symm⟩
  ·exact .inr ⟨hi,by rw[<- hM i hi];exact h1⟩
 have hR:Rel X ((.head d,.vec sz [])::M) a w (Gh.upd γ d ⟨0,0,0,true⟩) S:=by
  refine { keep:=h.keep,head:=λi e' h1=>?_,own:=λi e' h1 h2=>?_,inj:=λi e1 j e2 h1 h2 o1 o2 hbk=>?_,nt:=h.nt,q2o:=h.q2o,pin:=h.pin,slot:=λt s hs=>?_ }
  ·rcases cases' i e' h1 with⟨rfl,rfl⟩ | ⟨hi,h1⟩
   ·refine⟨BL _,?_⟩;rw[Gh.q2x,if_pos rfl];exact⟨rfl,rfl⟩
   ·exact(h.head i e' h1).go (λ_ _=>rfl) (λ_ h=>h) hh (Gh.q2z γ _ hi) (λj=>by rw[Mem.qj,if_neg (by simp)]) λ_=>rfl
  ·rcases cases' i e' h1 with⟨rfl,rfl⟩ | ⟨hi,h1⟩
   ·simp[Owned,Gh.q2x]at h2
   ·have h2:=Owned.congr (Gh.q2z γ _ hi) h2;rw[Gh.q2z γ _ hi];exact h.own i e' h1 h2
  ·rcases cases' i e1 h1 with⟨rfl,rfl⟩ | ⟨hi,h1⟩
   ·simp[Owned,Gh.q2x]at o1
   rcases cases' j e2 h2 with⟨rfl,rfl⟩ | ⟨hj,h2⟩
   ·simp[Owned,Gh.q2x]at o2
   ·rw[Gh.q2z γ _ hi,Gh.q2z γ _ hj]at hbk;exact h.inj i e1 j e2 h1 h2 (Owned.congr (Gh.q2z γ _ hi) o1) (Owned.congr (Gh.q2z γ _ hj) o2) hbk
  ·rw[Mem.qj,if_neg (by simp)]at hs;exact(h.slot t s hs).mono (λ_ _=>rfl) (λ_ h=>h) hh
 exact hR.put hd (s:=.sl d none) (by
  have:=SRep.sl (w:=w) (S:=S) (γ:=Gh.upd γ d ⟨0,0,0,true⟩) he (sz:=sz) (len:=0) rfl
  rwa[Gh.q2x]at this)
theorem Rel.gainVec(h:Rel X M a w γ S){d:Nat}(hd:X.Dst d)(hf:hdOf M d=none){sz:Nat}{xs:List FV}{w':World}{g:Gh}{vals:Array Value}{t:TypeId}(hg:g.nil=false)(hb:But g.blk w w')(hS:¬ S g.blk)
  (hn:∀i e,hdOf M i=some e->Owned γ i e->(γ i).blk≠g.blk) (hl:g.blk<w'.heap.size) (hx:X.W0 g.blk\/X.w0.heap.size<=g.blk) (hc:xs.length<=g.cap)
  (hv:w'.heap[g.blk]?=some (.cells vals t (0,0))) (hs:g.off+g.cap*sz<=vals.size) (hrow:Row w' S g.blk g.off sz xs) :
  Rel X ((.slot d,.sv (.sl d none))::(.head d,.vec sz xs)::M) (a.put (some d) (.slice (some ⟨g.blk,g.off,none⟩) xs.length g.cap)) w' (Gh.upd γ d g) S:=by
 have hM:q3z d M ((.head d,.vec sz xs)::M):=by
  refine⟨λi hi=>?_,λi j hi=>?_,λt=>?_⟩
  ·rw[hdOf,hdOf,Mem.qj,if_neg (by simpa using hi)]
  ·rw[Mem.qj,if_neg (by simp)]
  ·rw[Mem.qj,if_neg (by simp)]
 have he:hdOf ((.head d,.vec sz xs)::M) d=some (.vec sz xs):=by rw[hdOf,Mem.qj,if_pos rfl]
 have hR:=h.gain hf hM he hb hS hn hl hx (λhh=>by
  refine⟨by rw[Gh.q2x];exact hc,?_⟩;rw[Gh.q2x,if_neg (by simp[hg])]
  exact⟨vals,t,hv,hs,hrow⟩)
 exact hR.put hd (s:=.sl d none) (by
  have:=SRep.sl (w:=w') (S:=S) (γ:=Gh.upd γ d g) he (sz:=sz) (len:=xs.length) rfl
  rwa[Gh.q2x,show g.base=some ⟨g.blk,g.off,none⟩ by simp[Gh.base,hg]]at this)
theorem idx{sz i j k:Nat}(hj:j<sz)(h:i<k):i*sz+j<k*sz:=by
 have:=AT sz (show i+1<=k by omega);rw[AU,Ca]at this;omega
theorem qk1{b p sz:Nat}{ys:List FV}(hr:Row w S b p sz ys)(hsz:1<=sz):(q34 w b p sz ys.length).length=ys.length*sz /\
  (∀(j:Nat) (u:Value),(q34 w b p sz ys.length)[j]?=some u->w.cell? ((⟨b,p,none⟩:Addr).add j)=some u)/\(∀u∈q34 w b p sz ys.length,u.oneCell'=true) /\
  ∀(i j:Nat) (x c:FV),ys[i]?=some x->x.cells[j]?=some c->∃u,(q34 w b p sz ys.length)[i*sz+j]?=some u/\FRep w S c u:=by
 have key:∀k,k<ys.length*sz->∃v c,cellAt w b (p+k)=some v/\FRep w S c v/\c.flat=true:=λk hk=>by
  have hi:k / sz<ys.length:=BN (by rwa[AB]);have hj:k%sz<sz:=AM _ (by omega);have hx:ys[k / sz]?=some ys[k / sz]:=Ag hi;obtain⟨e1,e2⟩:=hr.1 _ (AQ hx);have hc:ys[k / sz].cells[k%sz]?=some ys[k / sz].cells[k%sz]:=Ag (by omega);obtain⟨v,h1,h2⟩:=hr.2 _ _ _ _ hx hc;have:k / sz*sz+k%sz=k:=by rw[AB];exact Dz k sz
  rw[this]at h1;exact⟨v,_,h1,h2,e2 _ (AQ hc)⟩
 refine⟨by simp[q34],λj u hj=>?_,λu hu=>?_,λi j x c hi hj=>?_⟩
 ·have hlt:=(Am.1 hj).1;have hlt':j<ys.length*sz:=by simpa[q34]using hlt
  rw[qeg hlt']at hj;cases hj;obtain⟨v,c,h1,_,_⟩:=key j hlt';rw[q53];show cellAt w b (p+j)=_;rw[h1];rfl
 ·obtain⟨j,hj⟩:=Bu.1 hu;have hlt:=(Am.1 hj).1;have hlt':j<ys.length*sz:=by simpa[q34]using hlt
  rw[qeg hlt']at hj;cases hj;obtain⟨v,c,h1,h2,h3⟩:=key j hlt';rw[h1];exact h2.one h3
 ·have hil:=(Am.1 hi).1;have hjl:j<sz:=by have:=(Am.1 hj).1;rw[(hr.1 _ (AQ hi)).1]at this;exact this
  obtain⟨v,h1,h2⟩:=hr.2 _ _ _ _ hi hj;exact⟨v,by rw[qeg (idx hjl hil),h1];rfl,h2⟩
theorem qk2{t el:TypeId}{te:TyI}{inf:TypeInfo}{dd:TypeDesc}{z:Value}(hu:E.P.underlying t=some (.slice el))(hT:TyOk E.P el te inf dd z)(h:Rel X M a w γ S){d:Nat}(hd:X.Dst d)(hf:hdOf M d=none)
  (hsz:1<=te.size) (hby:1<=te.bytes)
  {g:Gh} {olds:List FV} (hg:(g.nil=true/\olds=[]/\g.cap=0)\/(g.nil=false/\(∃vals e,w.heap[g.blk]?=some (.cells vals e (0,0))/\g.off+g.cap*te.size<=vals.size)/\Row w S g.blk g.off te.size olds /\
   ¬ S g.blk/\(∀i e,hdOf M i=some e->Owned γ i e->(γ i).blk≠g.blk)/\(X.W0 g.blk\/X.w0.heap.size<=g.blk))) (hcap:olds.length<=g.cap)
  {ys:List FV} {aa:Option Addr} {c b p:Nat} (ha:ys≠[]->aa=some ⟨b,p,none⟩) (hr:Row w S b p te.size ys) (hlim:(olds.length+ys.length)*te.bytes<=140737488355328) (ty:TypeId) :
  ∃v' w' γ',(Builtin.append_ #[t,t] ty #[.slice g.base olds.length g.cap,.slice aa ys.length c]).run E.P w=.ok v' w'/\Rel X ((.slot d,.sv (.sl d none))::(.head d,.vec te.size (olds++ys))::M) (a.put (some d) v') w' γ' S:=by
 have hsize:inf.size=te.size:=hT.size;by_cases hy:ys=[]
 ·subst hy;have hrun:=qqp (P:=E.P) w t ty el inf hu hT.info g.base aa olds.length g.cap c hcap;rw[AN];rcases hg with⟨hn,rfl,hc0⟩ | ⟨hn,⟨vals,e,hb,hsz'⟩,hrow,hS,hno,hW⟩
  ·refine⟨_,w,Gh.upd γ d ⟨0,0,0,true⟩,hrun,?_⟩;have:=h.gainNil (sz:=te.size) hd hf;simpa[Gh.base,hn,hc0]using this
  ·refine⟨_,w,Gh.upd γ d g,hrun,?_⟩;have hl:g.blk<w.heap.size:=(EU.1 hb).1;have:=h.gainVec hd hf (xs:=olds) hn (But.refl _ _) hS hno hl hW hcap hb hsz' hrow;simpa[Gh.base,hn]using this
 ·obtain rfl:=ha hy;obtain⟨r1,r2,r3,r4⟩:=qk1 hr hsz;have hm:0<ys.length:=CX.2 hy;have hneed:olds.length+ys.length<=140737488355328:=Bb (Eg _ (by omega)) hlim;have fresh:∀(old:Nat) (olds':List Value),olds'.length=olds.length*te.size->(∀(i j:Nat) (x c:FV),olds[i]?=some x->x.cells[j]?=some c->∃u,olds'[i*te.size+j]?=some u/\FRep w S c u)->(∀x,x∈olds->El te.size x) ->
    (Builtin.append_ #[t,t] ty #[.slice g.base olds.length g.cap,.slice (some ⟨b,p,none⟩) ys.length c]).run E.P w=.ok (.slice (some ⟨w.heap.size,0,none⟩) (olds.length+ys.length) (grownCap w (olds.length+ys.length) old el))
     (w.drew.alloc (.cells (olds'.toArray++(q34 w b p te.size ys.length).toArray++Builtin.zeroCells z.cells (grownCap w (olds.length+ys.length) old el-(olds.length+ys.length))) el)) ->
    ∃v' w' γ',(Builtin.append_ #[t,t] ty #[.slice g.base olds.length g.cap,.slice (some ⟨b,p,none⟩) ys.length c]).run E.P w=.ok v' w'/\Rel X ((.slot d,.sv (.sl d none))::(.head d,.vec te.size (olds++ys))::M) (a.put (some d) v') w' γ' S:=by
   intro old olds' hl' hold hel hrun;refine⟨_,_,Gh.upd γ d ⟨w.heap.size,0,grownCap w (olds.length+ys.length) old el,false⟩,hrun,?_⟩;have hz:z.cells.size=te.size:=by have:=qa8 hT.q28;simpa[hT.len]using this
   have hge:=grownCap_ge w (olds.length+ys.length) old el;have:=(h.drew (w.drawn+1)).newVec hd hf (sz:=te.size) (cap:=grownCap w (olds.length+ys.length) old el) (xs:=olds++ys)
    (vals:=olds'.toArray++(q34 w b p te.size ys.length).toArray++Builtin.zeroCells z.cells (grownCap w (olds.length+ys.length) old el-(olds.length+ys.length))) (t:=el)
    (by simpa using hge) (by
     simp only[Array.size_append,List.size_toArray,size_zeroCells,hz,hl',r1,<- AU];exact AT _ (by omega)) (λx hx=>(BD.1 hx).elim (hel x) (hr.1 x)) (λi j x c hi hj=>by
     have hjl:j<te.size:=by
      have:=(Am.1 hj).1;rwa[((BD.1 (AQ hi)).elim (hel x) (hr.1 x)).1]at this
     rw[Cq]at hi;split at hi
     ·rename_i hlt;obtain⟨u,q1,q2⟩:=hold i j x c hi hj;refine⟨u,?_,q2.drawn⟩;rw[Array.append_assoc,EV (by simp[hl'];exact idx hjl hlt)];simpa using q1
     ·rename_i hlt;obtain⟨u,q1,q2⟩:=r4 _ j x c hi hj;refine⟨u,?_,q2.drawn⟩;have hil:=(Am.1 hi).1;have hin:(i-olds.length)*te.size+j<ys.length*te.size:=idx hjl hil;have hsub:i*te.size+j=olds.length*te.size+((i-olds.length)*te.size+j):=by
       rw[<- Bl,<- AU,show olds.length+(i-olds.length)=i by omega]
      rw[Array.append_assoc,Array.getElem?_append_right (by simp[hl'];rw[hsub];omega),EV (by simp[hl',r1];rw[hsub];omega)];rw[show i*te.size+j-olds'.toArray.size=(i-olds.length)*te.size+j by simp[hl'];omega]
      simpa using q1)
   simp only[AZ]at this;exact this
  rcases hg with⟨hn,rfl,hc0⟩ | ⟨hn,⟨vals,e,hb,hsz'⟩,hrow,hS,hno,hW⟩
  ·have hbase:g.base=none:=by simp[Gh.base,hn]
   have hrun:=run_append_nil (P:=E.P) w t ty el inf z hu hT.info hT.zero ⟨b,p,none⟩ ys.length c _ (by rw[hsize];exact r1) r2 hm (by omega) (by rw[hT.bytes];have:=hlim;simp only[Be,AG]at this;omega);refine fresh 0 [] (by simp) (λi j x c hi=>by simp at hi) (λx hx=>by simp at hx) ?_;simp only[Be,AG,hbase,hc0];simpa using hrun
  ·have hbase:g.base=some ⟨g.blk,g.off,none⟩:=by simp[Gh.base,hn]
   rw[hbase]at fresh ⊢;by_cases hroom:olds.length+ys.length<=g.cap
   ·have hmul:(olds.length+ys.length)*te.size<=g.cap*te.size:=AT _ hroom;rw[AU]at hmul;have r1':(q34 w b p te.size ys.length).length=ys.length*te.size:=r1;have hrun:=qn0 (P:=E.P) w t ty el e inf hu hT.info g.blk g.off olds.length g.cap vals hb ⟨b,p,none⟩ ys.length c _ (by rw[hsize];exact r1) r2 r3 hroom (by rw[hsize,r1'];omega);refine⟨_,_,Gh.upd γ d g,hrun,?_⟩;have hheap:=setRow_heap w g.blk vals (vals.toList.take (g.off+olds.length*inf.size)++q34 w b p te.size ys.length++vals.toList.drop (g.off+olds.length*inf.size+(q34 w b p te.size ys.length).length)).toArray e (0,0) hb;have hsp:=qg9 vals.toList (g.off+olds.length*inf.size) (q34 w b p te.size ys.length) (by simp[r1',hsize];omega);have hw:=h.toHRel.q8e (But.setRow w g.blk (vals.toList.take (g.off+olds.length*inf.size)++q34 w b p te.size ys.length++vals.toList.drop (g.off+olds.length*inf.size+(q34 w b p te.size ys.length).length)).toArray) hS;have:=h.gainVec hd hf (sz:=te.size) (xs:=olds++ys) hn (But.setRow w g.blk _) hS hno (by rw[show(w.setRow g.blk _).heap.size=w.heap.size by simp[World.setRow]];exact(EU.1 hb).1) hW (by simpa using hroom) hheap
     (by simp[r1',hsize];omega) ⟨λx hx=>(BD.1 hx).elim (hrow.1 x) (hr.1 x),λi j x c hi hj=>by
      rw[q5c hheap,Ds,hsp];have hjl:j<te.size:=by
       have:=(Am.1 hj).1;rwa[((BD.1 (AQ hi)).elim (hrow.1 x) (hr.1 x)).1]at this
      rw[Cq]at hi;split at hi
      ·rename_i hlt;have hin:=idx hjl hlt;rw[if_neg (by rw[hsize];omega)];obtain⟨v,q1,q2⟩:=hrow.2 i j x c hi hj;rw[q5c hb]at q1;exact⟨v,by simpa using q1,q2.mono hw (λ_ h=>h)⟩
      ·rename_i hlt;obtain⟨u,q1,q2⟩:=r4 _ j x c hi hj;have hil:=(Am.1 hi).1;have hin:(i-olds.length)*te.size+j<ys.length*te.size:=idx hjl hil;have hsub:i*te.size+j=olds.length*te.size+((i-olds.length)*te.size+j):=by
        rw[<- Bl,<- AU,show olds.length+(i-olds.length)=i by omega]
       rw[if_pos (by rw[hsize,r1',hsub];omega)]
       exact⟨u,by rw[show g.off+(i*te.size+j)-(g.off+olds.length*inf.size)=(i-olds.length)*te.size+j by rw[hsize,hsub];omega];exact q1,q2.mono hw (λ_ h=>h)⟩⟩
    rw[AZ]at this;exact this
   ·obtain⟨o1,o2,o3,o4⟩:=qk1 hrow hsz;have hrun:=run_append_grow (P:=E.P) w t ty el inf z hu hT.info hT.zero ⟨g.blk,g.off,none⟩ olds.length g.cap (q34 w g.blk g.off te.size olds.length) (by rw[o1,hsize]) o2 ⟨b,p,none⟩ ys.length c _ (by rw[hsize];exact r1) r2 (by omega) (by omega)
     (growslice_fits (by omega) (by rw[hT.bytes];exact hlim))
    exact fresh g.cap _ o1 o4 hrow.1 hrun
end
end Rf
end
end
namespace Rf
open Go
section
section
variable {E:Env} {call:FuncId->List FV->Res} {X:Cx} {M:Mem} {a:Act} {w:World} {γ:Nat->Gh} {S:Nat->Prop} {us:List (Key×Ent)} {o:Oper}
theorem exec_builtin{P:Program}{b:Builtin}{args:Array Operand}{ats:Array TypeId}(hop:o.op=.call { callee:=.builtin b,args:=args,argTypes:=ats }) :
  (execOp a.eval o).run P w=(builtin b ats o.type (args.map fun | .const _=>true | _=>false) (args.map a.eval)).run P w:=by
 simp[execOp,hop,resolve,invoke];rfl
theorem qby{args:Array Operand}{vs:List SV}(hl:vs.length=args.toList.length)(hv:∀(j:Nat) (x:Operand),args.toList[j]?=some x->∃s,vs[j]?=some s/\SRep w S γ (hdOf M) s (a.eval x)){n:Nat}(hn:vs.length=n) :
  (args.map a.eval).toList.length=n/\∀(j:Nat) (s:SV),vs[j]?=some s->∃v,(args.map a.eval).toList[j]?=some v/\SRep w S γ (hdOf M) s v:=by
 refine⟨by simp at hl ⊢;omega,λj s hs=>?_⟩;have hj:j<args.toList.length:=by rw[<- hl];exact(Am.1 hs).1
 obtain⟨s',h1,h2⟩:=hv j args.toList[j] (Ag hj);rw[hs]at h1;cases h1;exact⟨_,by simp only[DH,Br,Ag hj,AE],h2⟩
theorem args1{args:Array Operand}{s:SV}(h:(args.map a.eval).toList.length=1/\∀(j:Nat) (t:SV),[s][j]?=some t->∃v,(args.map a.eval).toList[j]?=some v/\SRep w S γ (hdOf M) t v) :
  ∃v,args.map a.eval=#[v]/\SRep w S γ (hdOf M) s v:=by
 obtain⟨v,h1,h2⟩:=h.2 0 s rfl;refine⟨v,?_,h2⟩;have h3:=h.1;apply CZ;generalize (args.map a.eval).toList=l at *
 match l,h3 with
 |[x],_=>simp at h1;subst h1;rfl
theorem args2{args:Array Operand}{s t:SV}(h:(args.map a.eval).toList.length=2/\∀(j:Nat) (u:SV),[s,t][j]?=some u->∃v,(args.map a.eval).toList[j]?=some v/\SRep w S γ (hdOf M) u v) :
  ∃v u,args.map a.eval=#[v,u]/\SRep w S γ (hdOf M) s v/\SRep w S γ (hdOf M) t u:=by
 obtain⟨v,h1,h2⟩:=h.2 0 s rfl;obtain⟨u,h4,h5⟩:=h.2 1 t rfl;refine⟨v,u,?_,h2,h5⟩;have h3:=h.1;apply CZ;generalize (args.map a.eval).toList=l at *
 match l,h3 with
 |[x,y],_=>simp at h1 h4;subst h1;subst h4;rfl
theorem ats_of1{ats:Array TypeId}{t:TypeId}(h:ats.toList=[t]):ats=#[t]:=by
 apply CZ;rw[h]
theorem ats_of2{ats:Array TypeId}{t u:TypeId}(h:ats.toList=[t,u]):ats=#[t,u]:=by
 apply CZ;rw[h]
theorem qr3{b:Builtin}{args:Array Operand}{ats:Array TypeId}(hE:q14 E)(h:Rel X M a w γ S)(hd:∀d,o.dst=some d->X.Dst d)(hop:o.op=.call { callee:=.builtin b,args:=args,argTypes:=ats })(hg0:Gets (rtOp E call o) M us) :
  Goal E.P X M o a w us:=by
 simp only[rtOp,hop]at hg0;obtain⟨vs,hl,hv,hg⟩:=qbh h hg0;clear hg0;have hex:=exec_builtin (w:=w) (P:=E.P) (a:=a) hop;unfold builtinOp at hg;split at hg
 ·rename_i s;obtain⟨v,hargs,hs⟩:=args1 (qby hl hv (n:=1) rfl);split at hg
  ·rename_i t hats;have hats':=ats_of1 hats;have run:∀n:Nat,(Builtin.len_ #[t] o.type #[v]).run E.P w=.ok (goInt n) w->(execOp a.eval o).run E.P w=.ok (.value (.int .i64 n)) w:=λn hn=>by
    rw[hex,hargs,hats'];simp only[builtin];simp[hn,goInt]
   split at hg
   ·rename_i str;obtain⟨hu,hg⟩:=qf3 hE hg;have e:=hs.q5s;exact .q1i (run str.size (by rw[e];simp[Builtin.len_,run_underlying hu])) (q1c h hd (.fv (.int _ _)) hg)
   ·rename_i sz xs;obtain⟨el,te,inf,dd,z,hu,hT,hg⟩:=q54 hE hg;obtain⟨aa,cap,b',p,e,_⟩:=FRep.q30.1 hs.qce;exact .q1i (run xs.length (by rw[e];simp[Builtin.len_,run_underlying hu])) (q1c h hd (.fv (.int _ _)) hg)
   ·obtain⟨el,te,inf,dd,z,hu,hT,hg⟩:=q54 hE hg;have e:=hs.q8o;exact .q1i (run 0 (by rw[e];simp[Builtin.len_,run_underlying hu])) (q1c h hd (.fv (.int _ _)) hg)
   ·rename_i id view;obtain⟨el,te,inf,dd,z,hu,hT,hg⟩:=q54 hE hg;obtain⟨e,he,hg⟩:=q2u hg;have go:∀(s0:Nat) (xs:List FV),e.row=some (s0,xs.length)->Gets (match(generalizing:=false) view with | none=>out o.dst (.fv (.int .i64 xs.length)) [] | some (_,n)=>out o.dst (.fv (.int .i64 n)) []) M us->Goal E.P X M o a w us:=by
     clear hg;intro s0 xs hrow hgA;rcases hs.q5u he hrow with⟨rfl,e⟩ | ⟨o',n,aa,c,rfl,e,_⟩
     ·exact .q1i (run xs.length (by rw[e];simp[Builtin.len_,run_underlying hu])) (q1c h hd (.fv (.int _ _)) hgA)
     ·exact .q1i (run n (by rw[e];simp[Builtin.len_,run_underlying hu])) (q1c h hd (.fv (.int _ _)) hgA)
    split at hg
    ·exact go _ _ rfl hg
    ·exact go _ _ rfl hg
    ·exact(qg hg).elim
   ·rename_i id0 _;obtain⟨id,kt,et,ki,ei,inf,dd,z,hid,e,he,hu,hc,hT,hg⟩:=qaj hE hs hg;obtain⟨es,clk,c0,hg⟩:=q9m hg;obtain⟨es1,clk1,es',clk',d0,_,_,arr,c,hbk,_,_,_,hall⟩:=qak h he;rw[c0]at d0;cases d0;have hlen:es.length=arr.size:=by have:=hall.len;simpa using this
    exact .q1i (run es.length (by rw[e,hlen];exact run_len_map hu hbk _)) (q1c h hd (.fv (.int _ _)) hg)
   ·exact(qg hg).elim
  ·exact(qg hg).elim
 ·rename_i s x;obtain⟨v,u,hargs,hs,hx⟩:=args2 (qby hl hv (n:=2) rfl);split at hg
  ·rename_i t r hats;exact qqo hE h hd hs hx hats hg λw' hw=>by
    rw[hex,hargs];simp only[builtin];simp[hw]
  ·exact(qg hg).elim
 ·rename_i s x;obtain⟨v,u,hargs,hs,hx⟩:=args2 (qby hl hv (n:=2) rfl);split at hg
  ·rename_i t t' d hats hdst;obtain⟨ht,hg1⟩:=q15 hg;have ht':=Aw ht;subst ht';obtain⟨el,te,inf,dd,z,hu,hT,hg2⟩:=q54 hE hg1;obtain⟨hb,hg3⟩:=q15 hg2;simp only[Ai]at hb;have hby:=BB hb.1.2;have hsz:=BB hb.2;obtain⟨ys,aa,c,b',p,hxv,hcap,haa,hrow,hg4⟩:=qi2 h hx hg3;clear hg hg1 hg2 hg3;have hats':=ats_of2 hats;have fin:∀ {us':List (Key×Ent)} {v':Value} {w':World} {γ':Nat->Gh},(Builtin.append_ #[t,t] o.type #[v,u]).run E.P w=.ok v' w'->Rel X (us'++M) (a.put (some d) v') w' γ' S->us=us'->Goal E.P X M o a w us:=by
    intro us' v' w' γ' h1 h2 h3;subst h3;refine .value (v:=v') ?_ (by rw[hdst];exact h2);rw[hex,hargs,hats'];simp only[builtin];simp[h1]
   have lim:∀n,Nat.ble n (140737488355328 / te.bytes)=true->n*te.bytes<=140737488355328:=λn hn=>by
    have:=BB hn;exact Bb (AT _ this) (Ex _ _)
   split at hg4
   ·have e:=hs.q8o;rcases q6m hg4 with⟨hlim,hg5⟩ | ⟨_,hg5⟩
    ·obtain⟨hf,hg6⟩:=q7h hg5;obtain⟨v',w',γ',h1,h2⟩:=qk2 hu hT h (hd d hdst) hf hsz hby (g:=⟨0,0,0,true⟩) (olds:=[]) (.inl ⟨rfl,rfl,rfl⟩) (Ak _) (aa:=aa) (c:=c) haa hrow (by simpa using lim _ hlim) o.type;refine fin (v':=v') (w':=w') (γ':=γ') ?_ h2 (q2s hg6);rw[e,hxv];simpa[Gh.base]using h1
    ·exact(qg hg5).elim
   ·rename_i id view;obtain⟨e,he,hg5⟩:=q2u hg4;split at hg5
    ·rename_i sz xs;obtain⟨hq,hg6⟩:=q15 hg5;have hq':=Aw hq;subst hq';have step:∀n,n<=xs.length->v=.slice (γ id).base n (γ id).cap->hdOf M d=none->n*te.bytes+ys.length*te.bytes<=140737488355328 ->
       ∃v' w' γ',(Builtin.append_ #[t,t] o.type #[v,u]).run E.P w=.ok v' w'/\Rel X ((.slot d,.sv (.sl d none))::(.head d,.vec te.size (xs.take n++ys))::(.head id,.tomb)::M) (a.put (some d) v') w' γ' S:=by
      intro n hn hv' hf hlim;have hne:d≠id:=λq=>by rw[q,he]at hf;cases hf
      have hM:q3z id M ((.head id,.tomb)::M) :=
       ⟨λi hi=>by rw[hdOf,hdOf,Mem.qj,if_neg (by simpa using hi)],λi j hi=>by rw[Mem.qj,if_neg (by simp)],λt=>by rw[Mem.qj,if_neg (by simp)]⟩
      have hR:=h.lose hM (by rw[hdOf,Mem.qj,if_pos rfl]);have hf':hdOf ((.head id,.tomb)::M) d=none:=by rw[hM.1 d hne];exact hf
      have ho:=h.head id _ he;have hlen:(xs.take n).length=n:=by simp;omega
      obtain⟨v',w',γ',h1,h2⟩:=qk2 hu hT hR (hd d hdst) hf' hsz hby (g:=γ id) (olds:=xs.take n) (by
       by_cases hn':(γ id).nil=true
       ·have:=ho.2;rw[if_pos hn']at this;exact .inl ⟨hn',by rw[this.1];simp,this.2⟩
       ·have hnf:(γ id).nil=false:=by simpa using hn'
        have:=ho.2;rw[if_neg hn']at this;obtain⟨vals,te',hb1,hb2,hb3⟩:=this;have own:=h.own id _ he hnf;refine .inr ⟨hnf,⟨vals,te',hb1,hb2⟩,?_,own.2.1,λi e' h3 h4 h5=>?_,own.2.2⟩
        ·have:=hb3.sub 0 n;simpa using this
        ·by_cases hi:i=id
         ·subst hi;rw[hdOf,Mem.qj,if_pos rfl]at h3;cases h3;exact h4.elim
         ·rw[hM.1 i hi]at h3;exact hi (h.inj i e' id _ h3 he h4 hnf h5)) (by rw[hlen];have:=ho.1;omega) (aa:=aa) (c:=c) haa hrow (by rw[hlen,AU];exact hlim) o.type
      refine⟨v',w',γ',?_,h2⟩;rw[hv',hxv];rw[hlen]at h1;exact h1
     split at hg6
     ·rcases q6m hg6 with⟨hlim,hg7⟩ | ⟨_,hg7⟩
      ·obtain⟨hf,hg8⟩:=q7h hg7;have hv':v=.slice (γ id).base xs.length (γ id).cap:=by
        rcases hs.q5u he rfl with⟨_,q⟩ | ⟨_,_,_,_,q,_⟩
        ·exact q
        ·cases q
       obtain⟨v',w',γ',h1,h2⟩:=step xs.length (Ak _) hv' hf (by rw[<- AU];exact lim _ hlim);rw[Bj]at h2;exact fin h1 h2 (q2s hg8)
      ·exact(qg hg7).elim
     ·rename_i n;rcases q6m hg6 with⟨hlim,hg7⟩ | ⟨_,hg7⟩
      ·obtain⟨hf,hg8⟩:=q7h hg7;rcases hs.q5u he rfl with⟨q,_⟩ | ⟨o',n',aa',c',q,hv',h3,_,_,h6⟩
       ·cases q
       ·cases q;obtain⟨rfl,rfl⟩:=h6 rfl;obtain⟨v',w',γ',h1,h2⟩:=step n (by omega) hv' hf (by rw[<- AU];exact lim _ hlim);exact fin h1 h2 (q2s hg8)
      ·exact(qg hg7).elim
     ·exact(qg hg6).elim
    ·exact(qg hg5).elim
   ·exact(qg hg4).elim
  ·exact(qg hg).elim
 ·rename_i k m k' n;obtain⟨v,u,hargs,hs,hx⟩:=args2 (qby hl hv (n:=2) rfl);refine .q1i (v:=.int k (if n<m then n else m)) ?_ (q1c h hd (.fv (.int _ _)) hg);rw[hex,hargs,hs.q22,hx.q22];simp[builtin,Builtin.min_,Builtin.min2]
 ·rename_i k m k' n;obtain⟨v,u,hargs,hs,hx⟩:=args2 (qby hl hv (n:=2) rfl);refine .q1i (v:=.int k (if m<n then n else m)) ?_ (q1c h hd (.fv (.int _ _)) hg);rw[hex,hargs,hs.q22,hx.q22];simp[builtin,Builtin.max_,Builtin.max2]
 ·exact(qg hg).elim
end
end
section
section
variable {E:Env} {call:FuncId->List FV->Res} {X:Cx} {M:Mem} {a:Act} {w:World} {γ:Nat->Gh} {S:Nat->Prop} {us:List (Key×Ent)} {o:Oper}
theorem qu8{d:TypeDesc}{i:TyI}(h:descOk d i=true)(hf:i.flds.isEmpty=false):∃fs,d=.struct fs/\i.agg=true/\(fs.toList.map λf=>(f.offset,f.type))=i.flds:=by
 cases d with
 |struct fs =>
  simp only[descOk,Ai,Bv]at h;exact⟨fs,rfl,h.1,h.2⟩
 |_=>simp[descOk,hf]at h
theorem qm3{P:Program}:∀(fs:List Field),(∀f,f∈fs->∃inf,P.info? f.type=some inf) ->
  ∃places,fs.mapM (λf=>(P.info? f.type).map λi=>(f.offset,i.size))=some places/\∀(k:Nat) (f:Field),fs[k]?=some f->∃inf,P.info? f.type=some inf/\places[k]?=some (f.offset,inf.size)
 |[],_=>⟨[],rfl,λk f h=>by simp at h⟩
 |f::fs,h=>by
  obtain⟨inf,hi⟩:=h f AJ;obtain⟨pl,h1,h2⟩:=qm3 fs (λg hg=>h g (AC _ hg));refine⟨(f.offset,inf.size)::pl,by simp[Ep,hi,h1],λk g hg=>?_⟩;cases k with
  |zero=>simp at hg;subst hg;exact⟨inf,hi,rfl⟩
  |succ k=>simpa using h2 k g (by simpa using hg)
theorem drop_app{α:Type}(l1 l2 l3:List α)(k:Nat):(l1++(l2++l3))[k]?=if k<l1.length then l1[k]? else if k<l1.length+l2.length then l2[k-l1.length]? else l3[k-l1.length-l2.length]?:=by
 rw[Cq];split
 ·rfl
 ·rw[Cq];by_cases h:k-l1.length<l2.length
  ·rw[if_pos h,if_pos (by omega)]
  ·rw[if_neg h,if_neg (by omega)]
theorem qm4(hE:q14 E){flds:List (Nat×Nat)}{place:Nat->Option (Nat×Nat)}(hpl:∀(k off ft:Nat) (inf:TypeInfo),flds[k]?=some (off,ft)->E.P.info? ft=some inf->place k=some (off,inf.size)) :
  ∀ {ss:List (Nat×SV)} {ps:List (Nat×Value)} {cs:List SV} {cur:Array Value} {f:List SV->RT},
  ss.length=ps.length->(∀(k:Nat) (p:Nat×Value),ps[k]?=some p->∃s,ss[k]?=some (p.1,s)/\SRep w S γ (hdOf M) s p.2) ->
  cur.size=cs.length->(∀(j:Nat) (c:SV),cs[j]?=some c->SRep w S γ (hdOf M) c (cur.getD j undef))->Gets (fillR E flds cs ss f) M us ->
  ∃cs' cur',Instr.fill place cur ps=some cur'/\cur'.size=cs'.length/\(∀(j:Nat) (c:SV),cs'[j]?=some c->SRep w S γ (hdOf M) c (cur'.getD j undef))/\Gets (f cs') M us
 |[],[],cs,cur,f,_,_,h3,h4,hg=>⟨cs,cur,rfl,h3,h4,hg⟩
 |[],_::_,_,_,_,h1,_,_,_,_=>by simp at h1
 |_::_,[],_,_,_,h1,_,_,_,_=>by simp at h1
 |(i,s)::ss,(i',v)::ps,cs,cur,f,h1,h2,h3,h4,hg=>by
  obtain⟨s',q1,hs⟩:=h2 0 _ rfl;simp only[Aj,AH,Bw]at q1;obtain⟨rfl,rfl⟩:=q1;unfold fillR at hg;split at hg
  ·rename_i off ft hfl;obtain⟨fi,inf,dd,z,hT,hg⟩:=q3l hE hg;obtain⟨hb,hg⟩:=q15 hg;simp only[Ai]at hb;obtain⟨hlv,hg⟩:=qd7 hg;have e1:=Aw hb.1.1;have e2:=BB hb.1.2;obtain⟨c1,c2,c3⟩:=qf9 hs hb.2 hlv;have hstep:=qk9 place cur i v ps (hpl i off ft inf hfl hT.info) (by rw[c1,e1,hT.size]) (by rw[hT.size,h3];exact e2);rw[hstep];have hlen:(cs.take off++(s.cells++cs.drop (off+s.cells.length))).length=cs.length:=by simp;omega
   refine qm4 hE hpl (by simpa using h1) (λk p hk=>by simpa using h2 (k+1) p (by simpa using hk)) (by rw[qds,hlen,h3]) (λj c hj=>?_) hg;rw[drop_app]at hj;have ht:(cs.take off).length=off:=by simp;omega
   rw[ht]at hj;have c1':v.cells.size=s.cells.length:=c1;have hget:=qge off j v.cells.toList 0 cur (by rw[Bz,c1',e1,h3];omega);rw[Az,hget];simp only[Ay,Bz,c1'];split at hj
   ·rename_i hlt;rw[if_neg (by omega),<- Az];exact h4 j c (by rwa[CM hlt]at hj)
   ·rename_i hlt;split at hj
    ·rename_i hlt2;rw[if_pos (by omega)];have:=(c2 (j-off) c hj).2;rwa[Az,<- BA]at this
    ·rename_i hlt2;rw[if_neg (by omega),<- Az];rw[CB]at hj;exact h4 j c (by rwa[show off+s.cells.length+(j-off-s.cells.length)=j by omega]at hj)
  ·exact(qg hg).elim
theorem sim_build{t:TypeId}{parts:Array (Nat×Operand)}(hE:q14 E)(h:Rel X M a w γ S)(hd:∀d,o.dst=some d->X.Dst d)(hop:o.op=.build t parts)(hg0:Gets (rtOp E call o) M us):Goal E.P X M o a w us:=by
 simp only[rtOp,hop]at hg0;obtain⟨ti,inf,dd,z,hT,hg1⟩:=q3l hE hg0;obtain⟨ss,l1,hss,hg2⟩:=qgf h hg1;obtain⟨hb,hg3⟩:=q15 hg2;clear hg0 hg1 hg2;simp only[Ai,Av,Cm]at hb;obtain⟨fs,rfl,hagg,hfl⟩:=qu8 hT.desc hb.2
 obtain⟨pl,p1,p2⟩:=qm3 (P:=E.P) fs.toList (λf hf=>by
  have:(f.offset,f.type)∈ti.flds:=by rw[<- hfl];exact List.mem_map_of_mem hf
  have hs:=hb.1 _ this;obtain⟨i,hi⟩:=Ez.1 hs;obtain⟨inf',_,_,hT'⟩:=q8i (hE.ty _ i hi)
  exact⟨inf',hT'.info⟩)
 obtain⟨z1,z2⟩:=qiq (w:=w) (S:=S) (γ:=γ) hT (hdOf M)
 obtain⟨cs,cur,c1,c2,c3,hg⟩:=qm4 hE (place:=λk=>pl.toArray[k]?) (w:=w) (S:=S) (γ:=γ) (M:=M) (flds:=ti.flds) (λk off ft inf' hk hi=>by
   rw[<- hfl,Br,BY]at hk;obtain⟨f,hf,hk⟩:=hk;cases hk;obtain⟨inf2,q1,q2⟩:=p2 k f hf;rw[hi]at q1;cases q1
   simpa using q2)
  (ss:=ss) (ps:=(parts.map λp=>(p.1,a.eval p.2)).toList) (cs:=ti.q7g) (cur:=z.cells) (by simp[l1]) (λk p hk=>by
   simp only[DH,Br,BY]at hk;obtain⟨q,hq,rfl⟩:=hk
   exact hss k q hq) z1 (λj c hj=>(z2 j c hj).2) hg3
 have hbuilt:E.P.built t (parts.map λp=>(p.1,a.eval p.2)).toList=some cur:=by
  simp only[Program.built,hT.info,hT.und,hT.zero,p1];exact c1
 have hrun:=run_build (P:=E.P) w t (parts.map λp=>(p.1,a.eval p.2)) cur hbuilt;refine .q1i (v:=.agg cur) (by simp[execOp,hop,hrun]) (q1c h hd (.agg c2 c3) hg)
end
end
section
def VRep(w:World)(S:Nat->Prop)(g:Gh)(sz:Nat)(xs:List FV):Prop :=
 xs.length<=g.cap/\(if g.nil=true then xs=[]/\g.cap=0 else
  ∃vals e,w.heap[g.blk]?=some (.cells vals e (0,0))/\g.off+g.cap*sz<=vals.size/\Row w S g.blk g.off sz xs)
abbrev Sh:=Option (Nat×Nat)×Option ObK
abbrev GA:=List (Gh×Sh)
def leafT:Tok->FV->Prop
 |.int k,.int k' _=>k=k'
 |.bool,.bool _=>True
 |.str,.str _=>True
 |.lst s,.list s' _=>s=s'
 |.raw u,.raw u'=>u'=u/\u.oneCell'=true
 |.fn,.raw u'=>u'.oneCell'=true
 |.fpt s,.ref s' _=>s=s'
 |_,_=>False
def TRep(w:World)(S:Nat->Prop):List Tok->List Value->List FV->GA->GA->Prop
 |[],V,L,acc,fin=>V=[]/\L=[]/\fin=acc
 |t::T,V,L,acc,fin=>match t with
  |.skip=>∃v V',V=v::V'/\TRep w S T V' L acc fin
  |.own sz=>∃g xs V' L',V=.slice g.base xs.length g.cap::V'/\L=.list sz xs::L'/\VRep w S g sz xs/\TRep w S T V' L' (acc++[(g,(some (sz,xs.length),none))]) fin
  |.obj k=>∃g vals e V',V=.pointer (some ⟨g.blk,0,none⟩)::V'/\g.nil=false/\w.heap[g.blk]?=some (.cells vals e (0,0))/\vals.size=k/\TRep w S T (vals.toList++V') L (acc++[(g,(none,some (.n k)))]) fin
  |.ref j=>∃g r k V',acc[j]?=some (g,(r,some (.n k)))/\g.nil=false/\V=.pointer (some ⟨g.blk,0,none⟩)::V'/\TRep w S T V' L acc fin
  |.agg k=>∃cs V',V=.agg cs::V'/\cs.size=k/\TRep w S T (cs.toList++V') L acc fin
  |.clo fn k=>∃cs V',V=.func fn #[] cs::V'/\cs.size=k/\TRep w S T (cs.toList++V') L acc fin
  |.mapt kag ks z=>∃g es clk V' L',V=.map (some g.blk)::V'/\L=.list 3 es::.int .i64 clk::L'/\g.nil=false/\MRep w S g kag ks z es clk/\TRep w S T V' L' (acc++[(g,(none,some (.m kag ks z)))]) fin
  |t=>∃v V' x L',V=v::V'/\L=x::L'/\leafT t x/\FRep w S x v/\TRep w S T V' L' acc fin
structure q4u(M:Mem)(ids:List (Option Nat)):Prop where
 live:∀(j id:Nat),ids[j]?=some (some id)->∃e,hdOf M id=some e/\((∃s xs,e=.vec s xs)\/(∃n,e=.obj n)\/∃kag ks z,e=.mapH kag ks z)
 inj:∀(i j id:Nat),ids[i]?=some (some id)->ids[j]?=some (some id)->i=j
def GRel(γ:Nat->Gh)(M:Mem):Option Nat->Gh×Sh->Prop
 |none,x=>x.1=⟨0,0,0,true⟩/\x.2.2=none
 |some id,x=>x.1=γ id/\∃e,hdOf M id=some e/\x.2=(e.row,e.ob)
theorem isFn_one{v:Value}(h:isFn v=true):v.oneCell'=true:=by
 unfold isFn at h;split at h
 ·rfl
 ·cases h
theorem qea{id:Nat}:∀ {acc:List (Option Nat)},notIn id acc=true->some id ∉ acc
 |[],_=>by simp
 |none::r,h=>by simpa using qea (acc:=r) (by simpa[notIn]using h)
 |some j::r,h=>by
  simp only[notIn,Ai,Cm]at h;have h1:j≠id:=λe=>by subst e;simp at h
  simpa[BR h1]using qea h.2
theorem qfa{acc:List (Option Nat)}:∀ {fz:List (Key×Ent)},q4g acc fz=true->∀id e,(Key.head id,e)∈fz->some id ∉ acc
 |[],_,id,e,h=>by simp at h
 |(.head i,e')::r,h,id,e,hm=>by
  simp only[q4g,Ai]at h;rcases Ar.1 hm with h1 | h1
  ·cases h1;exact qea h.1
  ·exact qfa h.2 id e h1
 |(.slot _,_)::_,h,_,_,_=>by simp[q4g]at h
 |(.cell _ _,_)::_,h,_,_,_=>by simp[q4g]at h
theorem q4u.add{M:Mem}{ids:List (Option Nat)}(h:q4u M ids){id:Nat}{e:Ent}(he:hdOf M id=some e)(hk:(∃s xs,e=.vec s xs)\/(∃n,e=.obj n)\/∃kag ks z,e=.mapH kag ks z)(hn:notIn id ids=true):q4u M (ids++[some id]):=by
 have hx:=qea hn;have key:∀(j i:Nat),(ids++[some id])[j]?=some (some i)->(j<ids.length/\ids[j]?=some (some i))\/(j=ids.length/\i=id):=λj i hj=>by
  rw[Cq]at hj;split at hj
  ·rename_i hlt;exact .inl ⟨hlt,hj⟩
  ·rename_i hlt;have:=(Am.1 hj).1;simp at this;have h0:j-ids.length=0:=by omega
   rw[h0]at hj;simp at hj;exact .inr ⟨by omega,hj.symm⟩
 refine⟨λj i hj=>?_,λj1 j2 i h1 h2=>?_⟩
 ·rcases key j i hj with⟨_,hj⟩ | ⟨_,rfl⟩
  ·exact h.live j i hj
  ·exact⟨e,he,hk⟩
 ·rcases key j1 i h1 with⟨_,h1⟩ | ⟨q1,rfl⟩ <;> rcases key j2 i h2 with⟨_,h2⟩ | ⟨q2,q⟩
  ·exact h.inj j1 j2 i h1 h2
  ·subst q;exact absurd (AQ (by assumption:ids[j1]?=some (some _))) hx
  ·exact absurd (AQ (by assumption:ids[j2]?=some (some _))) hx
  ·omega
theorem q4u.addNone{M:Mem}{ids:List (Option Nat)}(h:q4u M ids):q4u M (ids++[none]):=by
 have key:∀(j i:Nat),(ids++[none])[j]?=some (some i)->ids[j]?=some (some i):=λj i hj=>by
  rw[Cq]at hj;split at hj
  ·exact hj
  ·have:=(Am.1 hj).1;simp at this;rename_i hlt;have h0:j-ids.length=0:=by omega
   rw[h0]at hj;simp at hj
 exact⟨λj i hj=>h.live j i (key j i hj),λj1 j2 i h1 h2=>h.inj j1 j2 i (key _ _ h1) (key _ _ h2)⟩
section
variable {E:Env} {call:FuncId->List FV->Res} {X:Cx} {M:Mem} {a:Act} {w:World} {γ:Nat->Gh} {S:Nat->Prop} {us:List (Key×Ent)} {o:Oper}
theorem qu6{sz:Nat}{x:FV}{xs:List FV}(h:lstOf sz x=some xs){v:Value}(hv:FRep w S x v):FRep w S (.list sz xs) v:=by
 unfold lstOf at h;split at h
 ·rename_i s ys;by_cases hb:Nat.beq s sz=true
  ·have:=Aw hb;subst this;rw[hb]at h;simp at h;subst h;exact hv
  ·have hb':Nat.beq s sz=false:=AI.2 hb;rw[hb']at h;simp only[Ab]at h;split at h
   ·cases h;obtain⟨a,cap,b,o,rfl,_⟩:=FRep.q30.1 hv;exact qae
   ·simp at h
 ·simp at h
theorem q5t{k:Key}:∀ {us:List (Key×Ent)},(∀e,(k,e) ∉ us)->Mem.get k us=none
 |[],_=>rfl
 |(k',e)::r,h=>by
  rw[Mem.qj,if_neg (λq=>h e (by rw[q];exact AJ))];exact q5t λe he=>h e (AC _ he)
theorem gets_ext(h:Rel X M a w γ S):∀ {T:List Tok} {svs:List SV} {vs:List Value} {acc:List (Option Nat)} {fz:List (Key×Ent)} {f:List FV->List (Option Nat)->List (Key×Ent)->RT} {accG:GA},
  All2 (SRep w S γ (hdOf M)) svs vs->q4u M acc->All2 (GRel γ M) acc accG->qv M fz->Gets (ext T svs acc fz f) M us ->
  ∃L ids fz' G,All2 (GRel γ M) ids G/\qv M fz'/\(∀p,p∈fz->p∈fz')/\q4g ids fz'=true/\q4u M ids/\(∃r,ids=acc++r)/\Gets (f L ids fz') M us /\
   ∀S',(∀b,S b->S' b)->Rel X (fz'++M) a w γ S'->TRep w S' T vs L accG G
 |[],[],vs,acc,fz,f,accG,hs,hi,hG,hf,hg=>by
  unfold ext at hg;obtain⟨hb,hg⟩:=q15 hg;cases hs;exact⟨[],acc,fz,accG,hG,hf,λp h=>h,hb,hi,⟨[],by simp⟩,hg,λS' _ _=>⟨rfl,rfl,rfl⟩⟩
 |[],s::svs,vs,acc,fz,f,accG,hs,hi,hG,hf,hg=>by unfold ext at hg;exact(qg hg).elim
 |t::T,[],vs,acc,fz,f,accG,hs,hi,hG,hf,hg=>by unfold ext at hg;exact(qg hg).elim
 |t::T,s::svs,_,acc,fz,f,accG,.cons (y:=v) (ys:=vs) hv hs,hi,hG,hf,hg=>by
  unfold ext at hg;have leaf:∀ {x:FV} {fz1:List (Key×Ent)},(∀S',TRep w S' (t::T)=λV L acc fin=>∃v V' x L',V=v::V'/\L=x::L'/\leafT t x/\FRep w S' x v/\TRep w S' T V' L' acc fin)->leafT t x ->
    qv M fz1->(∀p,p∈fz->p∈fz1)->(∀fz' S',qv M fz'->(∀p,p∈fz1->p∈fz')->(∀b,S b->S' b)->Rel X (fz'++M) a w γ S'->FRep w S' x v)->Gets (ext T svs acc fz1 λL ids us=>f (x::L) ids us) M us ->
    ∃L ids fz' G,All2 (GRel γ M) ids G/\qv M fz'/\(∀p,p∈fz->p∈fz')/\q4g ids fz'=true/\q4u M ids/\(∃r,ids=acc++r)/\Gets (f L ids fz') M us /\
     ∀S',(∀b,S b->S' b)->Rel X (fz'++M) a w γ S'->TRep w S' (t::T) (v::vs) L accG G:=by
   intro x fz1 ht hl hf1 hsub hrep hg1;obtain⟨L,ids,fz',G,h0,h1,h2,h3,h4,h5,h6,h7⟩:=gets_ext h hs hi hG hf1 hg1;refine⟨x::L,ids,fz',G,h0,h1,λp hp=>h2 p (hsub p hp),h3,h4,h5,h6,λS' hS hR=>?_⟩;rw[ht];exact⟨v,vs,x,L,rfl,rfl,hl,hrep fz' S' h1 h2 hS hR,h7 S' hS hR⟩
  split at hg
  ·rename_i k;split at hg
   ·rename_i k' n;obtain⟨hb,hg1⟩:=q15 hg;clear hg;obtain rfl:=q72.1 hb;refine leaf (x:=.int k n) (λ_=>rfl) rfl hf (λp h=>h) (λfz' S' _ _ hS hR=>?_) hg1;rw[hv.q22];exact .int _ _
   ·exact(qg hg).elim
  ·split at hg
   ·rename_i b;refine leaf (x:=.bool b) (λ_=>rfl) trivial hf (λp h=>h) (λfz' S' _ _ hS hR=>?_) hg;rw[hv.q51];exact .bool _
   ·exact(qg hg).elim
  ·split at hg
   ·rename_i b;refine leaf (x:=.str b) (λ_=>rfl) trivial hf (λp h=>h) (λfz' S' _ _ hS hR=>?_) hg;rw[hv.q5s];exact .str _
   ·exact(qg hg).elim
  ·rename_i sz;split at hg
   ·refine leaf (x:=.list sz []) (λ_=>rfl) rfl hf (λp h=>h) (λfz' S' _ _ hS hR=>?_) hg;rw[hv.q8o];exact qae
   ·rename_i x;split at hg
    ·rename_i xs hx;refine leaf (x:=.list sz xs) (λ_=>rfl) rfl hf (λp h=>h) (λfz' S' _ _ hS hR=>?_) hg;cases hv with
     |fv hr=>exact qu6 hx (hr.mono (λ_ _=>rfl) hS)
     |tomb hs _=>simp[SV.refId]at hs
    ·exact(qg hg).elim
   ·rename_i id view;obtain⟨e,he,hg⟩:=q2u hg
    have go:∀(s:Nat) (xs:List FV),(hdOf M id=some (.vec s xs)\/hdOf M id=some (.frz s xs))->Nat.beq s sz=true->Gets (match(generalizing:=false) view with
      |none=>ext T svs acc ((.head id,.frz s xs)::fz) λL ids us=>f (.list sz xs::L) ids us
      |some (o,n)=>ext T svs acc ((.head id,.frz s xs)::fz) λL ids us=>f (.list sz ((xs.drop o).take n)::L) ids us) M us ->
      ∃L ids fz' G,All2 (GRel γ M) ids G/\qv M fz'/\(∀p,p∈fz->p∈fz')/\q4g ids fz'=true/\q4u M ids/\(∃r,ids=acc++r)/\Gets (f L ids fz') M us /\
       ∀S',(∀b,S b->S' b)->Rel X (fz'++M) a w γ S'->TRep w S' (.lst sz::T) (v::vs) L accG G:=by
     clear hg;intro s xs hh hb hg1;have:=Aw hb;subst this;split at hg1
     ·refine leaf (x:=.list s xs) (λ_=>rfl) rfl (hf.cons hh) (λp h=>AC _ h) (λfz' S' hfz hsub hS hR=>?_) hg1;exact((FzOk.sl (M:=M) (hsub _ AJ)).rep hfz hR (hv.mono (λ_ _=>rfl) hS hfz.hdLe)).1
     ·rename_i o n;refine leaf (x:=.list s ((xs.drop o).take n)) (λ_=>rfl) rfl (hf.cons hh) (λp h=>AC _ h) (λfz' S' hfz hsub hS hR=>?_) hg1;exact((FzOk.view (M:=M) (hsub _ AJ)).rep hfz hR (hv.mono (λ_ _=>rfl) hS hfz.hdLe)).1
    split at hg
    ·obtain⟨hb,hg⟩:=q15 hg;exact go _ _ (.inl he) hb hg
    ·obtain⟨hb,hg⟩:=q15 hg;exact go _ _ (.inr he) hb hg
    ·exact(qg hg).elim
   ·exact(qg hg).elim
  ·rename_i u;split at hg
   ·rename_i u';obtain⟨hb,hg1⟩:=q15 hg;clear hg;obtain⟨rfl,h1⟩:=qdj hb;refine leaf (x:=.raw u) (λ_=>rfl) ⟨rfl,h1⟩ hf (λp h=>h) (λfz' S' _ _ hS hR=>?_) hg1;rw[hv.qam];exact .raw _
   ·exact(qg hg).elim
  ·split at hg
   ·rename_i u';obtain⟨hb,hg1⟩:=q15 hg;clear hg;refine leaf (x:=.raw u') (λ_=>rfl) (isFn_one hb) hf (λp h=>h) (λfz' S' _ _ hS hR=>?_) hg1;rw[hv.qam];exact .raw _
   ·exact(qg hg).elim
  ·split at hg
   ·rename_i s x;obtain⟨hb,hg1⟩:=q15 hg;clear hg;have:=Aw hb;subst this;refine leaf (x:=.ref s x) (λ_=>rfl) rfl hf (λp h=>h) (λfz' S' _ _ hS hR=>?_) hg1;obtain⟨b,o,rfl,q1,q2,_⟩:=hv.qdm;exact(FRep.qfk.2 ⟨b,_,rfl,q1,by simpa using q2⟩).mono (λ_ _=>rfl) hS
   ·exact(qg hg).elim
  ·obtain⟨L,ids,fz',G,h0,h1,h2,h3,h4,h5,h6,h7⟩:=gets_ext h hs hi hG hf hg;exact⟨L,ids,fz',G,h0,h1,h2,h3,h4,h5,h6,λS' hS hR=>⟨v,vs,rfl,h7 S' hS hR⟩⟩
  ·rename_i sz;split at hg
   ·obtain⟨L,ids,fz',G,h0,h1,h2,h3,h4,⟨r,h5⟩,h6,h7⟩:=gets_ext h hs hi.addNone (hG.app (.cons (y:=(⟨0,0,0,true⟩,(some (sz,0),none))) ⟨rfl,rfl⟩ .nil)) hf hg;refine⟨.list sz []::L,ids,fz',G,h0,h1,h2,h3,h4,⟨_,by rw[h5,Ap]⟩,h6,λS' hS hR=>?_⟩;refine⟨⟨0,0,0,true⟩,[],vs,L,by rw[hv.q8o];rfl,rfl,⟨Ak _,by simp⟩,?_⟩;exact h7 S' hS hR
   ·rename_i id;obtain⟨e,he,hg⟩:=q2u hg;split at hg
    ·rename_i s xs;obtain⟨hb,hg⟩:=q15 hg;simp only[Ai]at hb;have:=Aw hb.1;subst this;obtain⟨L,ids,fz',G,h0,h1,h2,h3,h4,⟨r,h5⟩,h6,h7⟩:=gets_ext h hs (hi.add he (.inl ⟨_,_,rfl⟩) hb.2) (hG.app (.cons (y:=(γ id,(some (s,xs.length),none))) ⟨rfl,_,he,rfl⟩ .nil)) hf hg;refine⟨.list s xs::L,ids,fz',G,h0,h1,h2,h3,h4,⟨_,by rw[h5,Ap]⟩,h6,λS' hS hR=>?_⟩;have hid:some id∈ids:=by rw[h5];simp
     have hhd:hdOf (fz'++M) id=some (.vec s xs):=by
      rw[hdOf,Mem.get_append,q5t (λe he'=>qfa h3 id e he' hid)];rw[CH];exact he
     refine⟨γ id,xs,vs,L,?_,rfl,?_,?_⟩
     ·rcases hv.q5u he rfl with⟨_,q⟩ | ⟨_,_,_,_,q,_⟩
      ·rw[q]
      ·cases q
     ·exact hR.head id _ hhd
     ·exact h7 S' hS hR
    ·exact(qg hg).elim
   ·exact(qg hg).elim
  ·rename_i k;split at hg
   ·rename_i id;obtain⟨e,he,hg⟩:=q2u hg;split at hg
    ·rename_i n;obtain⟨hb,hg⟩:=q15 hg;simp only[Ai]at hb;have:=Aw hb.1;subst this;obtain⟨cs,c1,c2,hg1⟩:=qh7 hg;obtain⟨hn,vals,te,hb1,hsz,hc⟩:=h.head id _ he;have hcs:All2 (SRep w S γ (hdOf M)) cs vals.toList:=.ofArr (by rw[hsz,c1]) λj s hj=>by
      have hj':j<n:=by rw[<- c1];exact(Am.1 hj).1
      have q2:=c2 j s hj;obtain⟨s2,q3,q4,q5⟩:=hc j hj';rw[AG,q3]at q2;cases q2;exact q5
     obtain⟨L,ids,fz',G,h0,h1,h2,h3,h4,⟨r,h5⟩,h6,h7⟩:=gets_ext h (hcs.app hs) (hi.add he (.inr (.inl ⟨_,rfl⟩)) hb.2) (hG.app (.cons (y:=(γ id,(none,some (.n n)))) ⟨rfl,_,he,rfl⟩ .nil)) hf hg1;refine⟨L,ids,fz',G,h0,h1,h2,h3,h4,⟨_,by rw[h5,Ap]⟩,h6,λS' hS hR=>?_⟩;refine⟨γ id,vals,te,vs,by rw[hv.qbi he],hn,hb1,hsz,?_⟩;exact h7 S' hS hR
    ·exact(qg hg).elim
   ·exact(qg hg).elim
  ·rename_i j;split at hg
   ·rename_i id id' hacc;obtain⟨hb,hg1⟩:=q15 hg;have:=Aw hb;subst this;obtain⟨L,ids,fz',G,h0,h1,h2,h3,h4,h5,h6,h7⟩:=gets_ext h hs hi hG hf hg1;refine⟨L,ids,fz',G,h0,h1,h2,h3,h4,h5,h6,λS' hS hR=>?_⟩;obtain⟨e,he,hk⟩:=hi.live j id hacc;cases hv with
    |@ptr _ _ e' n h' he' =>
     obtain⟨⟨g,sh⟩,q1,q2,e2,q3,q4⟩:=hG.get j _ hacc;simp only at q2 q4;subst q2;rw[h']at q3;cases q3;rw[he']at q4;have hob:e'=.obj n:=by cases e' <;> simp[Ent.ob]at he' <;> (subst he';rfl)
     subst hob;exact⟨γ id,(Ent.obj n).row,n,vs,by rw[q1,q4],(h.head id _ h').1,rfl,h7 S' hS hR⟩
    |tomb hs h' =>
     simp[SV.refId]at hs;subst hs;rw[he]at h';cases h';rcases hk with⟨_,_,q⟩ | ⟨_,q⟩ | ⟨_,_,_,q⟩ <;> cases q
   ·exact(qg hg).elim
  ·rename_i k;split at hg
   ·rename_i cs;obtain⟨hb,hg1⟩:=q15 hg;have:=Aw hb;subst this;obtain⟨ws,rfl,hl,hr⟩:=hv.qaf;obtain⟨L,ids,fz',G,h0,h1,h2,h3,h4,h5,h6,h7⟩:=gets_ext h ((All2.ofArr hl hr).app hs) hi hG hf hg1;exact⟨L,ids,fz',G,h0,h1,h2,h3,h4,h5,h6,λS' hS hR=>⟨ws,vs,rfl,hl,h7 S' hS hR⟩⟩
   ·exact(qg hg).elim
  ·rename_i fn k;split at hg
   ·rename_i g g' cs;obtain⟨hb,hg1⟩:=q15 hg;simp only[Ai]at hb;have e1:=Aw hb.1;have e2:=Aw hb.2;subst e1;subst e2;obtain⟨fs,ws,rfl,hl1,hl2,_,hr⟩:=hv.clo_inv;obtain⟨L,ids,fz',G,h0,h1,h2,h3,h4,h5,h6,h7⟩:=gets_ext h ((All2.ofArr hl2 hr).app hs) hi hG hf hg1;refine⟨L,ids,fz',G,h0,h1,h2,h3,h4,h5,h6,λS' hS hR=>⟨ws,vs,?_,hl2,h7 S' hS hR⟩⟩;have:fs=#[]:=by apply CZ;simpa using hl1
    rw[this]
   ·exact(qg hg).elim
  ·rename_i kag ks z;split at hg
   ·rename_i id;obtain⟨e,he,hg⟩:=q2u hg;split at hg
    ·rename_i kag' ks' z';obtain⟨hb,hg1⟩:=q15 hg;simp only[Ai]at hb;obtain⟨q1,q2,q3⟩:=qfb hb.1;subst q1;subst q2;subst q3;obtain⟨e0,he0,hg2⟩:=q6i hg1;clear hg hg1;split at hg2
     ·rename_i es clk;obtain⟨L,ids,fz',G,h0,h1,h2,h3,h4,⟨r,h5⟩,h6,h7⟩:=gets_ext h hs (hi.add he (.inr (.inr ⟨_,_,_,rfl⟩)) hb.2) (hG.app (.cons (y:=(γ id,(none,some (.m kag ks z)))) ⟨rfl,_,he,rfl⟩ .nil)) hf hg2;refine⟨.list 3 es::.int .i64 clk::L,ids,fz',G,h0,h1,h2,h3,h4,⟨_,by rw[h5,Ap]⟩,h6,λS' hS hR=>?_⟩;obtain⟨m1,m2⟩:=h1.mapH he;obtain⟨hn,es1,clk1,es',clk',d0,_,_,hm⟩:=hR.head id _ m1;rw[m2 0,he0]at d0;cases d0;exact⟨γ id,es,clk,vs,L,by rw[hv.mp_inv he],rfl,hn,hm,h7 S' hS hR⟩
     ·exact(qg hg2).elim
    ·exact(qg hg).elim
   ·exact(qg hg).elim
 termination_by T=>T.length
end
end
section
def NInj(nm:List Nat):Prop:=∀(i j id:Nat),nm[i]?=some id->nm[j]?=some id->i=j
theorem qbr{id:Nat}{p:Key×Ent}:∀ {off:Nat} {vs:List SV},p∈wrCells id off vs->∃j s,vs[j]?=some s/\p=(.cell id (off+j),.sv s)
 |off,[],h=>by simp[wrCells]at h
 |off,v::vs,h=>by
  rw[wrCells]at h;rcases Ar.1 h with rfl | h
  ·exact⟨0,v,rfl,rfl⟩
  ·obtain⟨j,s,h1,h2⟩:=qbr h;exact⟨j+1,s,by simpa using h1,by rw[h2];congr 2;omega⟩
def q46(id:Nat)(k:Key):Prop:=k=.head id\/∃o,k=.cell id o
theorem q46.inj{i j:Nat}{k:Key}(h:q46 i k)(h':q46 j k):i=j:=by
 rcases h with rfl | ⟨o,rfl⟩ <;> rcases h' with h' | ⟨o',h'⟩ <;> cases h' <;> rfl
theorem bld_keys{nm:List Nat}(hn:NInj nm):∀ {T:List Tok} {j:Nat} {L:List FV} {us:List (Key×Ent)} {svs:List SV} {r:List FV},bld nm j T L=some (us,svs,r) ->
  (∀p,p∈us->∃i id,j<=i/\nm[i]?=some id/\q46 id p.1)/\∀p,p∈us->Mem.get p.1 us=some p.2
 |[],j,L,us,svs,r,h=>by
  simp only[bld,AH,Bw]at h;obtain⟨rfl,_⟩:=h;exact⟨λp hp=>by simp at hp,λp hp=>by simp at hp⟩
 |t::T,j,L,us,svs,r,h=>by
  unfold bld at h;have leaf:∀ {L':List FV} {x:SV},(match bld nm j T L' with | some (us,vs,r)=>some (us,x::vs,r) | none=>none)=some (us,svs,r) ->
    (∀p,p∈us->∃i id,j<=i/\nm[i]?=some id/\q46 id p.1)/\∀p,p∈us->Mem.get p.1 us=some p.2:=by
   intro L' x h1;split at h1
   ·rename_i us' vs' r' he;cases h1;exact bld_keys hn he
   ·simp at h1
  have leaf':∀ {L':List FV} {g:List SV->List SV},(match bld nm j T L' with | some (us,vs,r)=>some (us,g vs,r) | none=>none)=some (us,svs,r) ->
    (∀p,p∈us->∃i id,j<=i/\nm[i]?=some id/\q46 id p.1)/\∀p,p∈us->Mem.get p.1 us=some p.2:=by
   intro L' x h1;split at h1
   ·rename_i us' vs' r' he;cases h1;exact bld_keys hn he
   ·simp at h1
  split at h
  ·split at h
   ·exact leaf h
   ·simp at h
  ·split at h
   ·exact leaf h
   ·simp at h
  ·split at h
   ·exact leaf h
   ·simp at h
  ·split at h
   ·exact leaf h
   ·simp at h
  ·split at h
   ·exact leaf h
   ·simp at h
  ·split at h
   ·exact leaf h
   ·simp at h
  ·split at h
   ·exact leaf h
   ·simp at h
  ·exact leaf h
  ·split at h
   ·rename_i sz xs L' id hid;split at h
    ·rename_i us' vs' r' he;cases h;obtain⟨k1,k2⟩:=bld_keys hn he;refine⟨λp hp=>?_,λp hp=>?_⟩
     ·rcases Ar.1 hp with rfl | hp
      ·exact⟨j,id,Ak _,hid,.inl rfl⟩
      ·obtain⟨i,id',q1,q2,q3⟩:=k1 p hp;exact⟨i,id',by omega,q2,q3⟩
     ·rcases Ar.1 hp with rfl | hp
      ·rw[Mem.qj,if_pos rfl]
      ·obtain⟨i,id',q1,q2,q3⟩:=k1 p hp;rw[Mem.qj,if_neg,k2 p hp];intro q;have:=q46.inj q3 (.inl q);subst this;have:=hn i j _ q2 hid;omega
    ·simp at h
   ·simp at h
  ·rename_i k;split at h
   ·rename_i id hid;split at h
    ·rename_i us' vs' r' he;cases h;obtain⟨k1,k2⟩:=bld_keys hn he;have hne:∀p,p∈us'->¬ q46 id p.1:=λp hp q=>by
      obtain⟨i,id',q1,q2,q3⟩:=k1 p hp;have:=q46.inj q3 q;subst this;have:=hn i j _ q2 hid;omega
     refine⟨λp hp=>?_,λp hp=>?_⟩
     ·rcases Ar.1 hp with rfl | hp
      ·exact⟨j,id,Ak _,hid,.inl rfl⟩
      ·rcases BD.1 hp with hp | hp
       ·obtain⟨o,s,_,rfl⟩:=qbr hp;exact⟨j,id,Ak _,hid,.inr ⟨_,rfl⟩⟩
       ·obtain⟨i,id',q1,q2,q3⟩:=k1 p hp;exact⟨i,id',by omega,q2,q3⟩
     ·rcases Ar.1 hp with rfl | hp
      ·rw[Mem.qj,if_pos rfl]
      ·rcases BD.1 hp with hp | hp
       ·obtain⟨o,s,q1,rfl⟩:=qbr hp;rw[Mem.qj,if_neg (by simp),Mem.get_append,qa7];have:=(Am.1 q1).1;rw[if_pos ⟨rfl,by omega,by omega⟩];simp only[AG,Ec];rw[q1];rfl
       ·have hk:=hne p hp;rw[Mem.qj,if_neg (λq=>hk (.inl q)),Mem.get_append];have:Mem.get p.1 (wrCells id 0 (vs'.take k))=none:=by
         apply q5t;intro e hm;obtain⟨o,s,_,q⟩:=qbr hm;exact hk (.inr ⟨_,congrArg Prod.fst q⟩)
        rw[this,k2 p hp];rfl
    ·simp at h
   ·simp at h
  ·split at h
   ·exact leaf h
   ·simp at h
  ·rename_i k;exact leaf' (g:=λvs=>.agg (vs.take k)::vs.drop k) h
  ·rename_i fn k;exact leaf' (g:=λvs=>.clo fn [] (vs.take k)::vs.drop k) h
  ·rename_i kag ks z;split at h
   ·rename_i sz es k clk L' id hid;split at h
    ·rename_i us' vs' r' he;cases h;obtain⟨k1,k2⟩:=bld_keys hn he;have hne:∀p,p∈us'->¬ q46 id p.1:=λp hp q=>by
      obtain⟨i,id',q1,q2,q3⟩:=k1 p hp;have:=q46.inj q3 q;subst this;have:=hn i j _ q2 hid;omega
     refine⟨λp hp=>?_,λp hp=>?_⟩
     ·rcases Ar.1 hp with rfl | hp
      ·exact⟨j,id,Ak _,hid,.inl rfl⟩
      rcases Ar.1 hp with rfl | hp
      ·exact⟨j,id,Ak _,hid,.inr ⟨_,rfl⟩⟩
      rcases Ar.1 hp with rfl | hp
      ·exact⟨j,id,Ak _,hid,.inr ⟨_,rfl⟩⟩
      ·obtain⟨i,id',q1,q2,q3⟩:=k1 p hp;exact⟨i,id',by omega,q2,q3⟩
     ·rcases Ar.1 hp with rfl | hp
      ·rw[Mem.qj,if_pos rfl]
      rcases Ar.1 hp with rfl | hp
      ·rw[Mem.qj,if_neg (by simp),Mem.qj,if_pos rfl]
      rcases Ar.1 hp with rfl | hp
      ·rw[Mem.qj,if_neg (by simp),Mem.qj,if_neg (by simp),Mem.qj,if_pos rfl]
      ·have hk:=hne p hp;rw[Mem.qj,if_neg (λq=>hk (.inl q)),Mem.qj,if_neg (λq=>hk (.inr ⟨_,q⟩)),Mem.qj,if_neg (λq=>hk (.inr ⟨_,q⟩)),k2 p hp]
    ·simp at h
   ·simp at h
theorem TRep.pre{w:World}{S:Nat->Prop}:∀ {T:List Tok} {V:List Value} {L:List FV} {acc fin:GA},TRep w S T V L acc fin->∃r,fin=acc++r
 |[],V,L,acc,fin,h=>⟨[],by rw[h.2.2];simp⟩
 |t::T,V,L,acc,fin,h=>by
  cases t with
  |skip=>obtain⟨v,V',_,h⟩:=h;exact h.pre
  |own sz=>obtain⟨g,xs,V',L',_,_,_,h⟩:=h;obtain⟨r,hr⟩:=h.pre;exact⟨_,by rw[hr,Ap]⟩
  |obj k=>obtain⟨g,vals,e,V',_,_,_,_,h⟩:=h;obtain⟨r,hr⟩:=h.pre;exact⟨_,by rw[hr,Ap]⟩
  |ref j=>obtain⟨g,r,k,V',_,_,_,h⟩:=h;exact h.pre
  |agg k=>obtain⟨cs,V',_,_,h⟩:=h;exact h.pre
  |clo fn k=>obtain⟨cs,V',_,_,h⟩:=h;exact h.pre
  |mapt kag ks z=>obtain⟨g,es,clk,V',L',_,_,_,_,h⟩:=h;obtain⟨r,hr⟩:=h.pre;exact⟨_,by rw[hr,Ap]⟩
  |_=>obtain⟨v,V',x,L',_,_,_,_,h⟩:=h;exact h.pre
 termination_by T=>T.length
theorem qsg{n:Nat}{t:Tok}{T:List Tok}(h:flatOk n (t::T)=true):(n=0\/((∀k,t≠.agg k)/\t≠.skip)) /\
  (t≠.skip->(∀k,t≠.agg k)->(∀fn k,t≠.clo fn k)->∀k,t=.obj k->flatOk (n-1+k) T=true)/\(arity t=0->flatOk (n-1) T=true)/\(∀fn k,t=.clo fn k->∃m,n-1<=m-(if n=0 then 0 else k)/\flatOk m T=true/\(n≠0->m=n-1+k))/\(∀k,t=.agg k->n=0/\flatOk 0 T=true):=by
 cases n with
 |zero =>
  refine⟨.inl rfl,λ_ _ _ k hk=>?_,λha=>?_,λfn k hk=>?_,λk hk=>?_⟩
  ·subst hk;simpa[flatOk]using h
  ·cases t <;> first | (simpa[flatOk]using h) | (simp only[arity]at ha;subst ha;simpa[flatOk]using h)
  ·subst hk;exact⟨0,by simp,by simpa[flatOk]using h,λh=>absurd rfl h⟩
  ·subst hk;exact⟨rfl,by simpa[flatOk]using h⟩
 |succ n =>
  refine⟨.inr ⟨λk hk=>by subst hk;simp[flatOk]at h,λhk=>by subst hk;simp[flatOk]at h⟩,λ_ _ _ k hk=>?_,λha=>?_,λfn k hk=>?_,λk hk=>?_⟩
  ·subst hk;simpa[flatOk,arity]using h
  ·cases t <;> first | (simp[flatOk]at h;done) | (simpa[flatOk,arity]using h) | (simp only[arity]at ha;subst ha;simpa[flatOk,arity]using h)
  ·subst hk;refine⟨n+k,by simp,by simpa[flatOk,arity]using h,λ_=>rfl⟩
  ·subst hk;simp[flatOk]at h
section
variable {w:World} {S:Nat->Prop}
theorem drop_flat{svs:List SV}{n k:Nat}(h:∀(i:Nat) (s:SV),i<n+k->svs[i]?=some s->s.flat=true):∀(i:Nat) (s:SV),i<n->(svs.drop k)[i]?=some s->s.flat=true:=λi s hi hs=>by
 rw[CB]at hs;exact h (k+i) s (by omega) hs
theorem qbs{svs:List SV}{n:Nat}{x:SV}(hx:n=0\/x.flat=true)(h:∀(i:Nat) (s:SV),i<n-1->svs[i]?=some s->s.flat=true):∀(i:Nat) (s:SV),i<n->(x::svs)[i]?=some s->s.flat=true:=λi s hi hs=>by
 cases i with
 |zero =>
  simp at hs;subst hs;rcases hx with hx | hx
  ·omega
  ·exact hx
 |succ i=>exact h i s (by omega) (by simpa using hs)
theorem q9q{t:Tok}{x:FV}(h:leafT t x):x.flat=true:=by
 cases t <;> cases x <;> simp_all[leafT,FV.flat]
theorem q7f{nm:List Nat}{M':Mem}{γ':Nat->Gh}:∀ {T:List Tok} {V:List Value} {L:List FV} {acc fin:GA} {us:List (Key×Ent)} {svs:List SV} {r:List FV} {n:Nat},
  TRep w S T V L acc fin->bld nm acc.length T L=some (us,svs,r)->(∀p,p∈us->Mem.get p.1 M'=some p.2)->(∀(i:Nat) (g:Gh) (k:Sh) (id:Nat),fin[i]?=some (g,k)->nm[i]?=some id->γ' id=g) ->
  (∀(i:Nat) (g:Gh) (q:Option (Nat×Nat)) (k:Nat),acc[i]?=some (g,(q,some (.n k)))->∀id,nm[i]?=some id->hdOf M' id=some (.obj k))->flatOk n T=true ->
  r=[]/\All2 (SRep w S γ' (hdOf M')) svs V/\(∀(i:Nat) (s:SV),i<n->svs[i]?=some s->s.flat=true) /\
   (∀id e,(Key.head id,e)∈us->ORep w S γ' M' id e/\∃i g,acc.length<=i/\nm[i]?=some id/\fin[i]?=some (g,(e.row,e.ob))/\((∃s xs,e=.vec s xs)\/(∃n,e=.obj n)\/∃kag ks z,e=.mapH kag ks z))/\∀(i:Nat) (x:Gh×Sh),acc.length<=i->fin[i]?=some x->∃id e,nm[i]?=some id/\(Key.head id,e)∈us
 |[],V,L,acc,fin,us,svs,r,n,h,hb,hu,hγ,hacc,hfl=>by
  obtain⟨rfl,rfl,rfl⟩:=h;simp only[bld,AH,Bw]at hb;obtain⟨rfl,rfl,rfl⟩:=hb;exact⟨rfl,.nil,λi s _ h=>by simp at h,λid e h=>by simp at h,λi x h1 h2=>by have:=(Am.1 h2).1;omega⟩
 |t::T,V,L,acc,fin,us,svs,r,n,h,hb,hu,hγ,hacc,hfl=>by
  obtain⟨f1,f2,f3,f4,f5⟩:=qsg hfl;have leaf:∀ {v:Value} {V':List Value} {L':List FV} {x:SV},V=v::V'->TRep w S T V' L' acc fin->SRep w S γ' (hdOf M') x v->(n=0\/x.flat=true)->arity t=0 ->
    (match bld nm acc.length T L' with | some (us,vs,r)=>some (us,x::vs,r) | none=>none)=some (us,svs,r) ->
    r=[]/\All2 (SRep w S γ' (hdOf M')) svs V/\(∀(i:Nat) (s:SV),i<n->svs[i]?=some s->s.flat=true) /\
     (∀id e,(Key.head id,e)∈us->ORep w S γ' M' id e/\∃i g,acc.length<=i/\nm[i]?=some id/\fin[i]?=some (g,(e.row,e.ob))/\((∃s xs,e=.vec s xs)\/(∃n,e=.obj n)\/∃kag ks z,e=.mapH kag ks z))/\∀(i:Nat) (x:Gh×Sh),acc.length<=i->fin[i]?=some x->∃id e,nm[i]?=some id/\(Key.head id,e)∈us:=by
   intro v V' L' x hV hT hx hxf ha h1;subst hV;split at h1
   ·rename_i us' vs' r' he;cases h1;obtain⟨k1,k2,k3,k4,k5⟩:=q7f hT he hu hγ hacc (f3 ha);exact⟨k1,.cons hx k2,qbs hxf k3,k4,k5⟩
   ·simp at h1
  have leafL:∀ {v:Value} {V':List Value} {x:FV} {L':List FV},V=v::V'->L=x::L'->TRep w S T V' L' acc fin->FRep w S x v->x.flat=true->arity t=0 ->
    (match(generalizing:=false) L with | x::L=>(match bld nm acc.length T L with | some (us,vs,r)=>some (us,SV.fv x::vs,r) | none=>none) | []=>none)=some (us,svs,r) ->
    r=[]/\All2 (SRep w S γ' (hdOf M')) svs V/\(∀(i:Nat) (s:SV),i<n->svs[i]?=some s->s.flat=true) /\
     (∀id e,(Key.head id,e)∈us->ORep w S γ' M' id e/\∃i g,acc.length<=i/\nm[i]?=some id/\fin[i]?=some (g,(e.row,e.ob))/\((∃s xs,e=.vec s xs)\/(∃n,e=.obj n)\/∃kag ks z,e=.mapH kag ks z))/\∀(i:Nat) (x:Gh×Sh),acc.length<=i->fin[i]?=some x->∃id e,nm[i]?=some id/\(Key.head id,e)∈us:=by
   intro v V' x L' hV hL hT hx hxf ha h1;subst hL;exact leaf hV hT (.fv hx) (.inr hxf) ha h1
  cases t with
  |int k=>obtain⟨v,V',x,L',h1,h2,h3,h4,h5⟩:=h;exact leafL h1 h2 h5 h4 (q9q h3) rfl hb
  |bool=>obtain⟨v,V',x,L',h1,h2,h3,h4,h5⟩:=h;exact leafL h1 h2 h5 h4 (q9q h3) rfl hb
  |str=>obtain⟨v,V',x,L',h1,h2,h3,h4,h5⟩:=h;exact leafL h1 h2 h5 h4 (q9q h3) rfl hb
  |lst sz=>obtain⟨v,V',x,L',h1,h2,h3,h4,h5⟩:=h;exact leafL h1 h2 h5 h4 (q9q h3) rfl hb
  |raw u=>obtain⟨v,V',x,L',h1,h2,h3,h4,h5⟩:=h;exact leafL h1 h2 h5 h4 (q9q h3) rfl hb
  |fn=>obtain⟨v,V',x,L',h1,h2,h3,h4,h5⟩:=h;exact leafL h1 h2 h5 h4 (q9q h3) rfl hb
  |fpt sz =>
   obtain⟨v,V',x,L',h1,h2,h3,h4,h5⟩:=h;cases x <;> simp only[leafT]at h3;obtain⟨b,o,rfl,q1,q2⟩:=FRep.qfk.1 h4;subst h2;refine leaf (x:=.fp _ [_] 0 0) h1 h5 ?_ (.inr rfl) rfl hb;have:=SRep.fp (γ:=γ') (hd:=hdOf M') (c:=0) q1 q2 (i:=0) (by simp);simpa using this
  |skip =>
   obtain⟨v,V',h1,h2⟩:=h;exact leaf h1 h2 .dead (f1.imp id λq=>absurd rfl q.2) rfl hb
  |own sz =>
   obtain⟨g,xs,V',L',rfl,rfl,hv,hT⟩:=h;simp only[bld]at hb;split at hb
   ·rename_i s xs' L2 id hL hid;cases hL;split at hb
    ·rename_i us' vs' r' he;cases hb;have hlen:(acc++[(g,((some (sz,xs.length),none):Sh))]).length=acc.length+1:=by simp
     obtain⟨rr,hrr⟩:=hT.pre;have hfin:fin[acc.length]?=some (g,(some (sz,xs.length),none)):=by rw[hrr];simp
     have hg:γ' id=g:=hγ _ g _ id hfin hid;have hh:hdOf M' id=some (.vec sz xs):=hu _ AJ
     obtain⟨k1,k2,k3,k4,k5⟩:=q7f hT (by rw[hlen];exact he) (λp hp=>hu p (AC _ hp)) hγ (λi g' q' k hi=>by
      rw[Cq]at hi;split at hi
      ·exact hacc i g' q' k hi
      ·rename_i hlt;have h0:=(Am.1 hi).1;simp at h0;rw[show i-acc.length=0 by omega]at hi
       simp at hi) (f3 rfl)
     refine⟨k1,.cons ?_ k2,qbs (.inr rfl) k3,λi e hm=>?_,λi x hi1 hi2=>?_⟩
     ·have:=SRep.sl (w:=w) (S:=S) (γ:=γ') hh (sz:=sz) (len:=xs.length) rfl;rwa[hg]at this
     ·rcases Ar.1 hm with hm | hm
      ·cases hm;refine⟨?_,acc.length,g,Ak _,hid,hfin,.inl ⟨_,_,rfl⟩⟩;show VRep w S (γ' id) sz xs;rw[hg];exact hv
      ·obtain⟨q1,i',g',q2,q3⟩:=k4 i e hm;exact⟨q1,i',g',by simp at q2;omega,q3⟩
     ·by_cases hi3:i=acc.length
      ·subst hi3;exact⟨id,_,hid,AJ⟩
      ·obtain⟨id',e',q1,q2⟩:=k5 i x (by simp;omega) hi2;exact⟨id',e',q1,AC _ q2⟩
    ·simp at hb
   ·simp at hb
  |obj k =>
   obtain⟨g,vals,te,V',rfl,hnil,hheap,hsz,hT⟩:=h;simp only[bld]at hb;split at hb
   ·rename_i id hid;split at hb
    ·rename_i us' vs' r' he;cases hb;have hlen:(acc++[(g,((none,some (.n k)):Sh))]).length=acc.length+1:=by simp
     obtain⟨rr,hrr⟩:=hT.pre;have hfin:fin[acc.length]?=some (g,(none,some (.n k))):=by rw[hrr];simp
     have hg:γ' id=g:=hγ _ g _ id hfin hid;have hh:hdOf M' id=some (.obj k):=hu _ AJ;have hfk:flatOk (n-1+k) T=true:=f2 (by simp) (by simp) (by simp) k rfl
     obtain⟨k1,k2,k3,k4,k5⟩:=q7f hT (by rw[hlen];exact he) (λp hp=>hu p (AC _ (DE _ hp))) hγ (λi g' q' k' hi id' hid'=>by
      rw[Cq]at hi;split at hi
      ·exact hacc i g' q' k' hi id' hid'
      ·rename_i hlt;have h0:=(Am.1 hi).1;simp at h0;have h1:i=acc.length:=by omega
       subst h1;simp at hi;rw[hid]at hid';cases hid'
       rw[hh,hi.2.2]) hfk
     have hall:All2 (SRep w S γ' (hdOf M')) (vs'.take k) vals.toList:=by
      have:=k2.take k;rwa[Ff (by rw[Bz,hsz])]at this
     refine⟨k1,.cons ?_ ?_,qbs (.inr rfl) (drop_flat k3),λi e hm=>?_,λi x hi1 hi2=>?_⟩
     ·have:=SRep.ptr (w:=w) (S:=S) (γ:=γ') (off:=0) hh rfl;rwa[hg]at this
     ·have:=k2.drop k;rwa[Eo (by rw[Bz,hsz])]at this
     ·rcases Ar.1 hm with hm | hm
      ·cases hm;refine⟨?_,acc.length,g,Ak _,hid,hfin,.inr (.inl ⟨_,rfl⟩)⟩;refine⟨by rw[hg];exact hnil,vals,te,by rw[hg];exact hheap,hsz,λj hj=>?_⟩;obtain⟨hl,hr⟩:=hall.toArr;have hjl:j<(vs'.take k).length:=by rw[<- hl,hsz];exact hj
       have hs:(vs'.take k)[j]?=some (vs'.take k)[j]:=Ag hjl;refine⟨_,?_,?_,hr j _ hs⟩
       ·have:(Key.cell id j,Ent.sv (vs'.take k)[j])∈wrCells id 0 (vs'.take k):=by
         have hw:∀(off:Nat) (vs:List SV) (j:Nat) (s:SV),vs[j]?=some s->(Key.cell id (off+j),Ent.sv s)∈wrCells id off vs:=by
          intro off vs
          induction vs generalizing off with
          |nil=>intro j s h;simp at h
          |cons v vs ih =>
           intro j s h;rw[wrCells];cases j with
           |zero=>simp at h;subst h;exact AJ
           |succ j=>exact AC _ (by have:=ih (off+1) j s (by simpa using h);rwa[Bl,Bn 1 j]at this)
         have:=hw 0 _ j _ hs;rwa[AG]at this
        exact hu _ (AC _ (Ef _ this))
       ·exact k3 j _ (by omega) (by rw[CM hj]at hs;exact hs)
      ·rcases BD.1 hm with hm | hm
       ·obtain⟨_,_,_,q⟩:=qbr hm;cases q
       ·obtain⟨q1,i',g',q2,q3⟩:=k4 i e hm;exact⟨q1,i',g',by simp at q2;omega,q3⟩
     ·by_cases hi3:i=acc.length
      ·subst hi3;exact⟨id,_,hid,AJ⟩
      ·obtain⟨id',e',q1,q2⟩:=k5 i x (by simp;omega) hi2;exact⟨id',e',q1,AC _ (DE _ q2)⟩
    ·simp at hb
   ·simp at hb
  |ref j =>
   obtain⟨g,q,k,V',hj,_,hV,hT⟩:=h;simp only[bld]at hb;split at hb
   ·rename_i id hid;have hh:=hacc j g q k hj id hid;obtain⟨rr,hrr⟩:=hT.pre;have hfin:fin[j]?=some (g,(q,some (.n k))):=by rw[hrr,Dn (Am.1 hj).1,hj]
    have hg:γ' id=g:=hγ _ g _ id hfin hid;refine leaf hV hT ?_ (.inr rfl) rfl hb;have:=SRep.ptr (w:=w) (S:=S) (γ:=γ') (off:=0) hh rfl;rwa[hg]at this
   ·simp at hb
  |agg k =>
   obtain⟨cs,V',rfl,hsz,hT⟩:=h;simp only[bld]at hb;split at hb
   ·rename_i us' vs' r' he;cases hb;obtain⟨rfl,hf0⟩:=f5 k rfl;obtain⟨k1,k2,k3,k4,k5⟩:=q7f hT he hu hγ hacc hf0;refine⟨k1,.cons ?_ ?_,λi s h=>by omega,k4,k5⟩
    ·have:=k2.take k;rw[Ff (by rw[Bz,hsz])]at this;obtain⟨q1,q2⟩:=this.toArr;exact .agg q1 q2
    ·have:=k2.drop k;rwa[Eo (by rw[Bz,hsz])]at this
   ·simp at hb
  |clo fn k =>
   obtain⟨cs,V',rfl,hsz,hT⟩:=h;simp only[bld]at hb;split at hb
   ·rename_i us' vs' r' he;cases hb;obtain⟨m,hm1,hm2,hm3⟩:=f4 fn k rfl;obtain⟨k1,k2,k3,k4,k5⟩:=q7f hT he hu hγ hacc hm2;refine⟨k1,.cons ?_ ?_,qbs (.inr rfl) (λi s hi hs=>?_),k4,k5⟩
    ·have:=k2.take k;rw[Ff (by rw[Bz,hsz])]at this;obtain⟨q1,q2⟩:=this.toArr;exact .clo rfl q1 (λj s h=>by simp at h) q2
    ·have:=k2.drop k;rwa[Eo (by rw[Bz,hsz])]at this
    ·rw[CB]at hs;have:n≠0:=by omega
     have:=hm3 this;exact k3 (k+i) s (by omega) hs
   ·simp at hb
  |mapt kag ks z =>
   obtain⟨g,es,clk,V',L',rfl,rfl,hnil,hm,hT⟩:=h;simp only[bld]at hb;split at hb
   ·rename_i s es' k clk' L2 id hL hid;cases hL;split at hb
    ·rename_i us' vs' r' he;cases hb;have hlen:(acc++[(g,((none,some (.m kag ks z)):Sh))]).length=acc.length+1:=by simp
     obtain⟨rr,hrr⟩:=hT.pre;have hfin:fin[acc.length]?=some (g,(none,some (.m kag ks z))):=by rw[hrr];simp
     have hg:γ' id=g:=hγ _ g _ id hfin hid;have hh:hdOf M' id=some (.mapH kag ks z):=hu _ AJ;have hc0:Mem.get (.cell id 0) M'=some (.map es clk):=hu (.cell id 0,.map es clk) (by simp);have hc1:Mem.get (.cell id 1) M'=some (.map es clk):=hu (.cell id 1,.map es clk) (by simp)
     obtain⟨k1,k2,k3,k4,k5⟩:=q7f hT (by rw[hlen];exact he) (λp hp=>hu p (AC _ (AC _ (AC _ hp)))) hγ (λi g' q' k hi=>by
      rw[Cq]at hi;split at hi
      ·exact hacc i g' q' k hi
      ·rename_i hlt;have h0:=(Am.1 hi).1;simp at h0;rw[show i-acc.length=0 by omega]at hi
       simp at hi) (f3 rfl)
     refine⟨k1,.cons ?_ k2,qbs (.inr rfl) k3,λi e hm'=>?_,λi x hi1 hi2=>?_⟩
     ·have:=SRep.mp (w:=w) (S:=S) (γ:=γ') hh rfl;rwa[hg]at this
     ·rcases Ar.1 hm' with hm' | hm'
      ·cases hm';exact⟨⟨by rw[hg];exact hnil,es,clk,es,clk,hc0,hc1,λ_=>rfl,by rw[hg];exact hm⟩,acc.length,g,Ak _,hid,hfin,.inr (.inr ⟨_,_,_,rfl⟩)⟩
      rcases Ar.1 hm' with hm' | hm'
      ·cases hm'
      rcases Ar.1 hm' with hm' | hm'
      ·cases hm'
      ·obtain⟨q1,i',g',q2,q3⟩:=k4 i e hm';exact⟨q1,i',g',by simp at q2;omega,q3⟩
     ·by_cases hi3:i=acc.length
      ·subst hi3;exact⟨id,_,hid,AJ⟩
      ·obtain⟨id',e',q1,q2⟩:=k5 i x (by simp;omega) hi2;exact⟨id',e',q1,AC _ (AC _ (AC _ q2))⟩
    ·simp at hb
   ·simp at hb
 termination_by T=>T.length
end
end
section
structure GOk(X:Cx)(w:World)(S:Nat->Prop)(fin:GA):Prop where
 own:∀(i:Nat) (g:Gh) (sh:Sh),fin[i]?=some (g,sh)->g.nil=false->g.blk<w.heap.size/\¬ S g.blk/\(X.W0 g.blk\/X.w0.heap.size<=g.blk)
 inj:∀(i j:Nat) (g g':Gh) (sh sh':Sh),fin[i]?=some (g,sh)->fin[j]?=some (g',sh')->g.nil=false->g'.nil=false->g.blk=g'.blk->i=j
theorem All2.getR{α β:Type}{R:α->β->Prop}{xs:List α}{ys:List β}(h:All2 R xs ys):∀(j:Nat) (y:β),ys[j]?=some y->∃x,xs[j]?=some x/\R x y:=by
 induction h with
 |nil=>intro j x hj;simp at hj
 |cons h _ ih =>
  intro j x hj;cases j with
  |zero=>simp at hj;subst hj;exact⟨_,rfl,h⟩
  |succ j=>simpa using ih j x (by simpa using hj)
theorem qf8{M:Mem}{ids:List (Option Nat)}{fz:List (Key×Ent)}(h:q4g ids fz=true){id:Nat}(hid:some id∈ids):hdOf (fz++M) id=hdOf M id:=by
 rw[hdOf,Mem.get_append,q5t (λe he'=>qfa h id e he' hid)];rw[CH];rfl
theorem GOk.of{X:Cx}{M:Mem}{a:Act}{w:World}{γ:Nat->Gh}{S:Nat->Prop}{ids:List (Option Nat)}{fz:List (Key×Ent)}{G:GA}(hR:Rel X (fz++M) a w γ S)(hG:All2 (GRel γ M) ids G)(hi:q4u M ids)
  (ha:q4g ids fz=true):GOk X w S G:=by
 have key:∀(i:Nat) (g:Gh) (sh:Sh),G[i]?=some (g,sh)->g.nil=false->∃id e,ids[i]?=some (some id)/\g=γ id/\hdOf (fz++M) id=some e/\Owned γ id e:=λi g sh h hn=>by
  obtain⟨x,h1,h2⟩:=hG.getR i _ h;cases x with
  |none=>obtain⟨h2,_⟩:=h2;simp only at h2;subst h2;simp at hn
  |some id =>
   obtain⟨h2,e,h3,h4⟩:=h2;simp only at h2;subst h2;refine⟨id,e,h1,rfl,by rw[qf8 ha (AQ h1)];exact h3,?_⟩;obtain⟨e',q1,q2⟩:=hi.live i id h1;rw[h3]at q1;cases q1;rcases q2 with⟨s,xs,rfl⟩ | ⟨n,rfl⟩ | ⟨_,_,_,rfl⟩
   ·exact hn
   ·trivial
   ·trivial
 refine⟨λi g sh h hn=>?_,λi j g g' sh sh' h h' hn hn' hb=>?_⟩
 ·obtain⟨id,e,_,rfl,h1,h2⟩:=key i g sh h hn;exact hR.own id e h1 h2
 ·obtain⟨id,e,q0,rfl,q1,q2⟩:=key i g sh h hn;obtain⟨id',e',p0,rfl,p1,p2⟩:=key j g' sh' h' hn';have:=hR.inj id e id' e' q1 p1 q2 p2 hb;subst this;exact hi.inj i j _ q0 p0
def ghAt:List Nat->GA->Nat->Gh
 |n::nm,g::fin,id=>if id=n then g.1 else ghAt nm fin id
 |_,_,_=>⟨0,0,0,true⟩
theorem NInj.tail{n:Nat}{nm:List Nat}(h:NInj (n::nm)):NInj nm:=λi j id h1 h2=>by
 have:=h (i+1) (j+1) id (by simpa using h1) (by simpa using h2);omega
theorem qb3:∀ {nm:List Nat} {fin:GA},NInj nm->∀(i:Nat) (g:Gh) (k:Sh) (id:Nat),fin[i]?=some (g,k)->nm[i]?=some id->ghAt nm fin id=g
 |[],fin,_,i,g,k,id,_,h=>by simp at h
 |n::nm,[],_,i,g,k,id,h,_=>by simp at h
 |n::nm,f::fin,hn,i,g,k,id,h1,h2=>by
  unfold ghAt;cases i with
  |zero=>simp at h1 h2;subst h1;rw[if_pos h2.symm]
  |succ i =>
   simp only[AP]at h1 h2;have hne:id≠n:=λq=>by
    have:=hn (i+1) 0 id (by simpa using h2) (by simp[q]);omega
   rw[if_neg hne];exact qb3 hn.tail i g k id h1 h2
theorem qa5:∀ {n b i id:Nat},(namesFrom b n)[i]?=some id->id=b+i
 |0,b,i,id,h=>by simp[namesFrom]at h
 |n+1,b,i,id,h=>by
  rw[namesFrom]at h;cases i with
  |zero=>simp at h;omega
  |succ i=>have:=qa5 (by simpa using h);omega
theorem qir(b n:Nat):NInj (namesFrom b n):=λi j id h1 h2=>by
 have:=qa5 h1;have:=qa5 h2;omega
theorem get_mem{k:Key}{e:Ent}:∀ {us:List (Key×Ent)},Mem.get k us=some e->(k,e)∈us
 |[],h=>by simp[Mem.get]at h
 |(k',e')::r,h=>by
  rw[Mem.qj]at h;split at h
  ·rename_i hk;cases h;subst hk;exact AJ
  ·exact AC _ (get_mem h)
theorem qis{t:Nat}{e:Ent}:∀ {ts:List Nat} {vs:List SV},Mem.get (.slot t) (putSlots ts vs)=some e->∃(i:Nat) (s:SV),ts[i]?=some t/\vs[i]?=some s/\e=.sv s
 |[],vs,h=>by simp[putSlots,Mem.get]at h
 |_::_,[],h=>by simp[putSlots,Mem.get]at h
 |t'::ts,v::vs,h=>by
  rw[putSlots,Mem.qj]at h;split at h
  ·rename_i hk;cases h;cases hk;exact⟨0,v,rfl,rfl,rfl⟩
  ·obtain⟨i,s,h1,h2,h3⟩:=qis h;exact⟨i+1,s,by simpa using h1,by simpa using h2,h3⟩
theorem qit{k:Key}(hk:∀t,k≠.slot t):∀ {ts:List Nat} {vs:List SV},Mem.get k (putSlots ts vs)=none
 |[],vs=>by simp[putSlots,Mem.get]
 |_::_,[]=>by simp[putSlots,Mem.get]
 |t'::ts,v::vs=>by rw[putSlots,Mem.qj,if_neg (hk _),qit hk]
theorem q46.noSlot{id t:Nat}(h:q46 id (.slot t)):False:=by
 rcases h with h | ⟨_,h⟩ <;> cases h
theorem qiu{X:Cx}{a:Act}{w:World}{S:Nat->Prop}{nm ts:List Nat}{T:List Tok}{V:List Value}{L:List FV}{fin:GA}{us:List (Key×Ent)}{svs:List SV}{r:List FV}(hk:Keep X w S)(hnt:a.tmps.size=X.nt)(hdf:a.defers=[])(hpin:∀t v,X.pin t=some v->a.tmps.getD t undef=v)
  (hT:TRep w S T V L [] fin) (hfl:flatOk 0 T=true) (hb:bld nm 0 T L=some (us,svs,r)) (hn:NInj nm) (hg:GOk X w S fin) (hs:All2 (λt v=>a.tmps.getD t undef=v) ts V) :
  r=[]/\Rel X (putSlots ts svs++us) a w (ghAt nm fin) S/\All2 (SRep w S (ghAt nm fin) (hdOf us)) svs V:=by
 obtain⟨b1,b2⟩:=bld_keys hn hb;have hnone:∀t,Mem.get (.slot t) us=none:=λt=>q5t λe he=>by
  obtain⟨i,id,_,_,q⟩:=b1 _ he;exact q.noSlot
 have hkey:∀k,(∀t,k≠.slot t)->Mem.get k (putSlots ts svs++us)=Mem.get k us:=λk hk=>by
  rw[Mem.get_append,qit hk,CH]
 have hh:hdOf (putSlots ts svs++us)=hdOf us:=funext λid=>hkey _ (λt=>by simp)
 obtain⟨k1,k2,_,k4,_⟩:=q7f (M':=putSlots ts svs++us) (γ':=ghAt nm fin) hT hb (λp hp=>by
  rw[hkey p.1 (λt q=>by obtain⟨i,id,_,_,q'⟩:=b1 _ hp;rw[q]at q';exact q'.noSlot)];exact b2 p hp) (qb3 hn) (λi g q k h=>by simp at h) hfl
 have hown:∀id e,hdOf us id=some e->ORep w S (ghAt nm fin) (putSlots ts svs++us) id e/\∃i g,nm[i]?=some id/\fin[i]?=some (g,(e.row,e.ob))/\ghAt nm fin id=g/\(Owned (ghAt nm fin) id e->g.nil=false):=λid e he=>by
  obtain⟨q1,i,g,_,q2,q3,q4⟩:=k4 id e (get_mem he);have hgg:=qb3 hn i g _ id q3 q2;refine⟨q1,i,g,q2,q3,hgg,λho=>?_⟩;rcases q4 with⟨s,xs,rfl⟩ | ⟨n,rfl⟩ | ⟨_,_,_,rfl⟩
  ·rw[<- hgg];exact ho
  ·rw[<- hgg];exact q1.1
  ·rw[<- hgg];exact q1.1
 refine⟨k1,{ keep:=hk,head:=λid e he=>?_,own:=λid e he ho=>?_,inj:=λid e id' e' he he' ho ho' hbk=>?_,nt:=hnt,q2o:=hdf,pin:=hpin,slot:=λt s ht=>?_ },by rw[<- hh];exact k2⟩
 ·rw[hh]at he;exact(hown id e he).1
 ·rw[hh]at he;obtain⟨_,i,g,q1,q2,q3,q4⟩:=hown id e he;rw[q3];exact hg.own i g _ q2 (q4 ho)
 ·rw[hh]at he he';obtain⟨_,i,g,q1,q2,q3,q4⟩:=hown id e he;obtain⟨_,i',g',p1,p2,p3,p4⟩:=hown id' e' he';rw[q3,p3]at hbk;have:=hg.inj i i' g g' _ _ q2 p2 (q4 ho) (p4 ho') hbk;subst this;rw[q1]at p1;cases p1;rfl
 ·rw[Mem.get_append,hnone,Option.or_none]at ht;obtain⟨i,s',q1,q2,q3⟩:=qis ht;cases q3;obtain⟨v,q4,q5⟩:=k2.get i s q2;obtain⟨v',q6,q7⟩:=hs.get i t q1;rw[q4]at q6;cases q6;rw[q7];exact q5
def GSim(x y:Gh×Sh):Prop:=x.2=y.2/\x.1.nil=y.1.nil/\(x.1.nil=false->x.1.blk=y.1.blk)/\(x.2.2=none->x.1.cap=y.1.cap/\(x.1.nil=false->x.1.off=y.1.off))
theorem TRep.top{w:World}{S:Nat->Prop}{T:List Tok}{V:List Value}{L:List FV}{acc fin:GA}{x:Gh×Sh}(h:TRep w S T V L (acc++[x]) fin):fin[acc.length]?=some x:=by
 obtain⟨r,hr⟩:=h.pre;rw[hr];simp
theorem slice_inj{g g':Gh}{n n':Nat}(h:Value.slice g.base n g.cap=.slice g'.base n' g'.cap):n=n'/\g.cap=g'.cap/\g.nil=g'.nil/\(g.nil=false->g.blk=g'.blk/\g.off=g'.off):=by
 simp only[Value.slice.injEq]at h;obtain⟨h1,h2,h3⟩:=h;refine⟨h2,h3,?_⟩;cases hn:g.nil <;> cases hn':g'.nil <;> simp[Gh.base,hn,hn']at h1 ⊢;exact h1
theorem qb4{w:World}{S:Nat->Prop}:∀ {T T':List Tok} {n:Nat} {V1 V:List Value} {L:List FV} {acc fin:GA},pastTok T n=some T'->V1.length=n->TRep w S T (V1++V) L acc fin->tops 0 T=tops 0 T'/\∃L',TRep w S T' V L' acc fin
 |T,T',0,V1,V,L,acc,fin,h,hl,hT=>by
  have:V1=[]:=De.1 hl;subst this;cases T <;> (simp[pastTok]at h;subst h;exact⟨rfl,L,hT⟩)
 |[],T',n+1,V1,V,L,acc,fin,h,hl,hT=>by simp[pastTok]at h
 |t::T,T',n+1,v::V1,V,L,acc,fin,h,hl,hT=>by
  have hl':V1.length=n:=by simpa using hl
  cases t with
  |own sz=>simp[pastTok]at h
  |obj k=>simp[pastTok]at h
  |mapt kag ks z=>simp[pastTok]at h
  |ref j=>simp[pastTok]at h
  |skip =>
   obtain⟨v',V',h1,h2⟩:=hT;simp only[Al,AY]at h1;obtain⟨_,rfl⟩:=h1;simp only[pastTok,arity,Ay]at h;have:=qb4 h hl' h2;simpa[tops]using this
  |agg k =>
   obtain⟨cs,V',h1,hsz,h2⟩:=hT;simp only[Al,AY]at h1;obtain⟨_,rfl⟩:=h1;simp only[pastTok,arity]at h;rw[<- Ap]at h2;have:=qb4 h (by simp[hsz,hl'];omega) h2;simpa[tops]using this
  |clo fn k =>
   obtain⟨cs,V',h1,hsz,h2⟩:=hT;simp only[Al,AY]at h1;obtain⟨_,rfl⟩:=h1;simp only[pastTok,arity]at h;rw[<- Ap]at h2;have:=qb4 h (by simp[hsz,hl'];omega) h2;simpa[tops]using this
  |_ =>
   obtain⟨v',V',x,L',h1,rfl,_,_,h2⟩:=hT;simp only[Al,AY]at h1;obtain⟨_,rfl⟩:=h1;simp only[pastTok,arity,Ay]at h;have:=qb4 h hl' h2;simpa[tops]using this
 termination_by T=>T.length
theorem q3d{w w':World}{S S':Nat->Prop}:∀ {T U:List Tok} {n:Nat} {V1 V2 V R:List Value} {L L':List FV} {acc acc' fin fin':GA},ioOk n T U=true->V1.length=n->V2.length=n->TRep w S T (V1++V) L acc fin->TRep w' S' U (V2++(V++R)) L' acc' fin' ->
  acc.length=acc'.length->∀i,(tops n T)[i]?=some true->∃x x',fin[acc.length+i]?=some x/\fin'[acc.length+i]?=some x'/\GSim x x'
 |[],U,n,V1,V2,V,R,L,L',acc,acc',fin,fin',h,l1,l2,hT,hU,ha,i,hi=>by simp[tops]at hi
 |t::T,[],n,V1,V2,V,R,L,L',acc,acc',fin,fin',h,l1,l2,hT,hU,ha,i,hi=>by cases n <;> cases t <;> simp[ioOk]at h
 |t::T,u::U,0,V1,V2,V,R,L,L',acc,acc',fin,fin',h,l1,l2,hT,hU,ha,i,hi=>by
  have e1:V1=[]:=De.1 l1;have e2:V2=[]:=De.1 l2;subst e1;subst e2;rw[As]at hT hU;cases t with
  |own s =>
   cases u with
   |own s' =>
    simp only[ioOk,Ai]at h;have:=Aw h.1;subst this;obtain⟨g,xs,V',L1,rfl,rfl,hv,hT⟩:=hT;obtain⟨g',xs',V'',L1',hV,rfl,hv',hU⟩:=hU;simp only[Al,AY]at hV;obtain⟨hV,rfl⟩:=hV;obtain⟨i1,i2,i3,i4⟩:=slice_inj hV;cases i with
    |zero=>exact⟨(g,_),(g',_),hT.top,by rw[ha];exact hU.top,by rw[i1],i3,λh=>(i4 h).1,λ_=>⟨i2,λh=>(i4 h).2⟩⟩
    |succ i =>
     have:=q3d (V1:=[]) (V2:=[]) h.2 rfl rfl hT hU (by simp[ha]) i (by simpa[tops]using hi);simpa[Bl,Bn 1 i]using this
   |_=>simp[ioOk]at h
  |obj k =>
   cases u with
   |obj k' =>
    simp only[ioOk,Ai]at h;have:=Aw h.1;subst this;obtain⟨g,vals,e,V',rfl,hn,hh,hsz,hT⟩:=hT;obtain⟨g',vals',e',V'',hV,hn',hh',hsz',hU⟩:=hU;simp only[Al,AY,Value.pointer.injEq,AH,Addr.mk.injEq]at hV;obtain⟨⟨hV,_⟩,rfl⟩:=hV;cases i with
    |zero=>exact⟨(g,_),(g',_),hT.top,by rw[ha];exact hU.top,rfl,by rw[hn,hn'],λ_=>hV,λh=>by simp at h⟩
    |succ i =>
     have:=q3d (V1:=vals.toList) (V2:=vals'.toList) h.2 (by simp[hsz]) (by simp[hsz']) hT hU (by simp[ha]) i (by simpa[tops]using hi);simpa[Bl,Bn 1 i]using this
   |_=>simp[ioOk]at h
  |clo fn k =>
   cases u with
   |clo fn' k' =>
    simp only[ioOk,Ai]at h;obtain⟨cs,V',rfl,hsz,hT⟩:=hT;obtain⟨cs',V'',hV,hsz',hU⟩:=hU;simp only[Al,AY,Value.func.injEq,CU]at hV;obtain⟨⟨_,rfl⟩,rfl⟩:=hV;rw[<- Ap]at hU;exact q3d (V1:=[]) (V2:=[]) h.2 rfl rfl hT hU ha i (by simpa[tops]using hi)
   |_=>simp[ioOk]at h
  |ref j =>
   cases u with
   |ref j' =>
    simp only[ioOk]at h;obtain⟨g,q,k,V',_,_,rfl,hT⟩:=hT;obtain⟨g',q',k',V'',_,_,hV,hU⟩:=hU;simp only[Al,AY]at hV;obtain⟨_,rfl⟩:=hV;exact q3d (V1:=[]) (V2:=[]) h rfl rfl hT hU ha i (by simpa[tops]using hi)
   |_=>simp[ioOk]at h
  |agg k =>
   cases u with
   |skip =>
    simp only[ioOk]at h;split at h
    ·rename_i T' hp;obtain⟨cs,V',rfl,hsz,hT⟩:=hT;obtain⟨v,V'',hV,hU⟩:=hU;simp only[Al,AY]at hV;obtain⟨_,rfl⟩:=hV;obtain⟨q1,L1,q2⟩:=qb4 hp (by simp[hsz]) hT;have:T'.length<(Tok.agg k::T).length:=by
      have hl:∀ {T T':List Tok} {n:Nat},pastTok T n=some T'->T'.length<=T.length:=by
       intro T
       induction T with
       |nil=>intro T' n h;cases n <;> simp[pastTok]at h;subst h;exact Ak _
       |cons t T ih =>
        intro T' n h;cases n with
        |zero=>simp[pastTok]at h;subst h;exact Ak _
        |succ n =>
         simp only[pastTok]at h;split at h
         all_goals first | (simp at h;done) | (have:=ih h;simp;omega)
      have:=hl hp;simp;omega
     exact q3d (V1:=[]) (V2:=[]) h rfl rfl q2 hU ha i (by rw[<- q1];simpa[tops]using hi)
    ·simp at h
   |_=>simp[ioOk]at h
  |mapt kag ks z =>
   cases u with
   |mapt kag' ks' z' =>
    simp only[ioOk,Ai]at h;obtain⟨q1,q2,q3⟩:=qfb h.1;subst q1;subst q2;subst q3;obtain⟨g,es,clk,V',L1,rfl,rfl,hn,hm,hT⟩:=hT;obtain⟨g',es',clk',V'',L1',hV,rfl,hn',hm',hU⟩:=hU;simp only[Al,AY,Value.map.injEq,AH]at hV;obtain⟨hV,rfl⟩:=hV;cases i with
    |zero=>exact⟨(g,_),(g',_),hT.top,by rw[ha];exact hU.top,rfl,by rw[hn,hn'],λ_=>hV,λh=>by simp at h⟩
    |succ i =>
     have:=q3d (V1:=[]) (V2:=[]) h.2 rfl rfl hT hU (by simp[ha]) i (by simpa[tops]using hi);simpa[Bl,Bn 1 i]using this
   |_=>simp[ioOk]at h
  |skip =>
   cases u with
   |skip =>
    simp only[ioOk]at h;obtain⟨v',V',rfl,hT⟩:=hT;obtain⟨v,V'',hV,hU⟩:=hU;simp only[Al,AY]at hV;obtain⟨_,rfl⟩:=hV;exact q3d (V1:=[]) (V2:=[]) h rfl rfl hT hU ha i (by simpa[tops]using hi)
   |_=>simp[ioOk]at h
  |_ =>
   cases u with
   |skip =>
    simp only[ioOk]at h;obtain⟨v',V',x,L1,rfl,rfl,_,_,hT⟩:=hT;obtain⟨v,V'',hV,hU⟩:=hU;simp only[Al,AY]at hV;obtain⟨_,rfl⟩:=hV;exact q3d (V1:=[]) (V2:=[]) h rfl rfl hT hU ha i (by simpa[tops]using hi)
   |_=>simp[ioOk]at h
 |t::T,u::U,n+1,v1::V1,v2::V2,V,R,L,L',acc,acc',fin,fin',h,l1,l2,hT,hU,ha,i,hi=>by
  have l1':V1.length=n:=by simpa using l1
  have l2':V2.length=n:=by simpa using l2
  simp only[ioOk,Ai]at h;obtain⟨he,h⟩:=h;cases t with
  |own s =>
   cases u with
   |own s' =>
    obtain⟨g,xs,V',L1,hV1,rfl,hv,hT⟩:=hT;obtain⟨g',xs',V'',L1',hV2,rfl,hv',hU⟩:=hU;simp only[Al,AY]at hV1 hV2;obtain⟨_,rfl⟩:=hV1;obtain⟨_,rfl⟩:=hV2;cases i with
    |zero=>simp[tops]at hi
    |succ i =>
     have:=q3d h (by simpa[arity]using l1') (by simpa[arity]using l2') hT hU (by simp[ha]) i (by simpa[tops,arity]using hi);simpa[Bl,Bn 1 i]using this
   |_=>simp[tokEq]at he
  |obj k =>
   cases u with
   |obj k' =>
    simp only[tokEq]at he;have:=Aw he;subst this;obtain⟨g,vals,e,V',hV1,hn,hh,hsz,hT⟩:=hT;obtain⟨g',vals',e',V'',hV2,hn',hh',hsz',hU⟩:=hU;simp only[Al,AY]at hV1 hV2;obtain⟨_,rfl⟩:=hV1;obtain⟨_,rfl⟩:=hV2;rw[<- Ap]at hT hU;cases i with
    |zero=>simp[tops]at hi
    |succ i =>
     have:=q3d h (by simp[arity,hsz,l1'];omega) (by simp[arity,hsz',l2'];omega) hT hU (by simp[ha]) i (by simpa[tops,arity]using hi);simpa[Bl,Bn 1 i]using this
   |_=>simp[tokEq]at he
  |clo fn k =>
   cases u with
   |clo fn' k' =>
    have hk:k=k':=by
     cases fn <;> cases fn' <;> simp[tokEq]at he;exact he.2
    subst hk;obtain⟨cs,V',hV1,hsz,hT⟩:=hT;obtain⟨cs',V'',hV2,hsz',hU⟩:=hU;simp only[Al,AY]at hV1 hV2;obtain⟨_,rfl⟩:=hV1;obtain⟨_,rfl⟩:=hV2;rw[<- Ap]at hT hU;exact q3d h (by simp[arity,hsz,l1'];omega) (by simp[arity,hsz',l2'];omega) hT hU ha i (by simpa[tops,arity,show Nat.beq (n+1) 0=false from rfl]using hi)
   |_=>cases fn <;> simp[tokEq]at he
  |agg k =>
   cases u with
   |agg k' =>
    simp only[tokEq]at he;have:=Aw he;subst this;obtain⟨cs,V',hV1,hsz,hT⟩:=hT;obtain⟨cs',V'',hV2,hsz',hU⟩:=hU;simp only[Al,AY]at hV1 hV2;obtain⟨_,rfl⟩:=hV1;obtain⟨_,rfl⟩:=hV2;rw[<- Ap]at hT hU;exact q3d h (by simp[arity,hsz,l1'];omega) (by simp[arity,hsz',l2'];omega) hT hU ha i (by simpa[tops,arity,show Nat.beq (n+1) 0=false from rfl]using hi)
   |_=>simp[tokEq]at he
  |ref j =>
   cases u with
   |ref j' =>
    obtain⟨g,q,k,V',_,_,hV1,hT⟩:=hT;obtain⟨g',q',k',V'',_,_,hV2,hU⟩:=hU;simp only[Al,AY]at hV1 hV2;obtain⟨_,rfl⟩:=hV1;obtain⟨_,rfl⟩:=hV2;exact q3d h (by simpa[arity]using l1') (by simpa[arity]using l2') hT hU ha i (by simpa[tops,arity]using hi)
   |_=>simp[tokEq]at he
  |mapt kag ks z =>
   cases u with
   |mapt kag' ks' z' =>
    obtain⟨g,es,clk,V',L1,hV1,rfl,hn,hm,hT⟩:=hT;obtain⟨g',es',clk',V'',L1',hV2,rfl,hn',hm',hU⟩:=hU;simp only[Al,AY]at hV1 hV2;obtain⟨_,rfl⟩:=hV1;obtain⟨_,rfl⟩:=hV2;cases i with
    |zero=>simp[tops]at hi
    |succ i =>
     have:=q3d h (by simpa[arity]using l1') (by simpa[arity]using l2') hT hU (by simp[ha]) i (by simpa[tops,arity]using hi);simpa[Bl,Bn 1 i]using this
   |_=>simp[tokEq]at he
  |skip =>
   cases u with
   |skip =>
    obtain⟨v',V',hV1,hT⟩:=hT;obtain⟨v,V'',hV2,hU⟩:=hU;simp only[Al,AY]at hV1 hV2;obtain⟨_,rfl⟩:=hV1;obtain⟨_,rfl⟩:=hV2;exact q3d h (by simpa[arity]using l1') (by simpa[arity]using l2') hT hU ha i (by simpa[tops,arity]using hi)
   |_=>simp[tokEq]at he
  |_ =>
   cases u <;> simp only[tokEq,Bs]at he;obtain⟨v',V',x,L1,hV1,rfl,_,_,hT⟩:=hT;obtain⟨v,V'',x',L1',hV2,rfl,_,_,hU⟩:=hU;simp only[Al,AY]at hV1 hV2;obtain⟨_,rfl⟩:=hV1;obtain⟨_,rfl⟩:=hV2;exact q3d h (by simpa[arity]using l1') (by simpa[arity]using l2') hT hU ha i (by simpa[tops,arity]using hi)
 termination_by T=>T.length
theorem TRep.sim{w:World}{S:Nat->Prop}:∀ {T:List Tok} {V:List Value} {L:List FV} {acc fin acc2 fin2:GA},TRep w S T V L acc fin->fin.length=fin2.length->(∀(i:Nat) (x y:Gh×Sh),fin[i]?=some x->fin2[i]?=some y->GSim x y)->acc2=fin2.take acc.length->TRep w S T V L acc2 fin2
 |[],V,L,acc,fin,acc2,fin2,h,hl,hs,ha=>by
  obtain⟨rfl,rfl,rfl⟩:=h;exact⟨rfl,rfl,by rw[ha,CR (by omega)]⟩
 |t::T,V,L,acc,fin,acc2,fin2,h,hl,hs,ha=>by
  have next:∀ {T':List Tok} {V':List Value} {L':List FV} {x:Gh×Sh},TRep w S T' V' L' (acc++[x]) fin->∃y,fin2[acc.length]?=some y/\GSim x y/\acc2++[y]=fin2.take (acc++[x]).length:=λhT=>by
   have h1:=hT.top;have hlt:acc.length<fin2.length:=by rw[<- hl];exact(Am.1 h1).1
   refine⟨fin2[acc.length],Ag hlt,hs _ _ _ h1 (Ag hlt),?_⟩;rw[ha,AZ,By,Dw,Ag hlt];rfl
  cases t with
  |skip=>obtain⟨v,V',h1,h⟩:=h;exact⟨v,V',h1,h.sim hl hs ha⟩
  |own sz =>
   obtain⟨g,xs,V',L',h1,h2,h3,h⟩:=h;obtain⟨⟨g2,sh⟩,q1,⟨q2,q3,q4,q5⟩,q6⟩:=next h
   simp only at q2 q3 q4 q5;subst q2;obtain⟨q7,q8⟩:=q5 trivial;have hbase:g2.base=g.base:=by
    unfold Gh.base;rw[<- q3];cases hn:g.nil with
    |true=>rfl
    |false=>rw[q4 hn,q8 hn]
   refine⟨g2,xs,V',L',by rw[hbase,<- q7];exact h1,h2,?_,h.sim hl hs q6⟩;refine⟨by rw[<- q7];exact h3.1,?_⟩;have h4:=h3.2;rw[<- q3,<- q7];split
   ·rename_i hn;rw[if_pos hn]at h4;exact h4
   ·rename_i hn;rw[if_neg hn]at h4;have hn':g.nil=false:=by simpa using hn
    rw[<- q4 hn',<- q8 hn'];exact h4
  |obj k =>
   obtain⟨g,vals,e,V',h1,h2,h3,h4,h⟩:=h;obtain⟨⟨g2,sh⟩,q1,⟨q2,q3,q4,q5⟩,q6⟩:=next h
   simp only at q2 q3 q4;subst q2;exact⟨g2,vals,e,V',by rw[<- q4 h2];exact h1,by rw[<- q3];exact h2,by rw[<- q4 h2];exact h3,h4,h.sim hl hs q6⟩
  |ref j =>
   obtain⟨g,q,k,V',h1,hn,h2,h⟩:=h;obtain⟨r,hr⟩:=h.pre;have hj:=(Am.1 h1).1;have h3:fin[j]?=some (g,(q,some (.n k))):=by rw[hr,Dn hj,h1]
   have hlt:j<fin2.length:=by rw[<- hl];exact(Am.1 h3).1
   have hsim:=hs j _ _ h3 (Ag hlt);obtain⟨q2,q3,q4,_⟩:=hsim;refine⟨fin2[j].1,q,k,V',?_,by rw[<- q3];exact hn,by rw[<- q4 hn];exact h2,h.sim hl hs ha⟩;rw[ha,CM hj,Ag hlt];simp only at q2;rw[AH];exact Prod.ext rfl q2.symm
  |agg k=>obtain⟨cs,V',h1,h2,h⟩:=h;exact⟨cs,V',h1,h2,h.sim hl hs ha⟩
  |clo fn k=>obtain⟨cs,V',h1,h2,h⟩:=h;exact⟨cs,V',h1,h2,h.sim hl hs ha⟩
  |mapt kag ks z =>
   obtain⟨g,es,clk,V',L',h1,h2,hn,hm,h⟩:=h;obtain⟨⟨g2,sh⟩,q1,⟨q2,q3,q4,q5⟩,q6⟩:=next h
   simp only at q2 q3 q4;subst q2;refine⟨g2,es,clk,V',L',by rw[<- q4 hn];exact h1,h2,by rw[<- q3];exact hn,?_,h.sim hl hs q6⟩;unfold MRep at hm ⊢;rw[<- q4 hn];exact hm
  |_=>obtain⟨v,V',x,L',h1,h2,h3,h4,h⟩:=h;exact⟨v,V',x,L',h1,h2,h3,h4,h.sim hl hs ha⟩
 termination_by T=>T.length
end
section
theorem q7e{w:World}{S:Nat->Prop}:∀ {T:List Tok} {n:Nat} {V:List Value} {L:List FV} {acc fin:GA},TRep w S T V L acc fin->fin.length=acc.length+(tops n T).length
 |[],n,V,L,acc,fin,h=>by rw[h.2.2];simp[tops]
 |t::T,n,V,L,acc,fin,h=>by
  cases t with
  |skip=>obtain⟨v,V',_,h⟩:=h;have:=q7e (n:=n-1) h;simpa[tops]using this
  |own sz=>obtain⟨g,xs,V',L',_,_,_,h⟩:=h;have:=q7e (n:=n-1) h;simp[tops]at this ⊢;omega
  |obj k=>obtain⟨g,vals,e,V',_,_,_,_,h⟩:=h;have:=q7e (n:=n-1+k) h;simp[tops]at this ⊢;omega
  |ref j=>obtain⟨g,r,k,V',_,_,_,h⟩:=h;have:=q7e (n:=n-1) h;simpa[tops]using this
  |agg k=>obtain⟨cs,V',_,_,h⟩:=h;have:=q7e (n:=bif Nat.beq n 0 then 0 else n-1+k) h;simpa only[tops]using this
  |clo fn k=>obtain⟨cs,V',_,_,h⟩:=h;have:=q7e (n:=bif Nat.beq n 0 then 0 else n-1+k) h;simpa only[tops]using this
  |mapt kag ks z=>obtain⟨g,es,clk,V',L',_,_,_,_,h⟩:=h;have:=q7e (n:=n-1) h;simp[tops]at this ⊢;omega
  |_=>obtain⟨v,V',x,L',_,_,_,_,h⟩:=h;have:=q7e (n:=n-1) h;simpa[tops]using this
 termination_by T=>T.length
theorem qip:∀ {bs:List Bool} {ids:List (Option Nat)} {base n j id:Nat},(nameAll base bs ids n)[j]?=some id ->
  (bs[j]?=some true/\ids[j]?=some (some id))\/(id∈newOf bs ids (nameAll base bs ids n)/\id=base+j)
 |[],ids,base,n,j,id,h=>by
  simp only[nameAll,newOf]at h ⊢;exact .inr ⟨AQ h,qa5 h⟩
 |b::bs,[],base,n,j,id,h=>by
  simp only[nameAll,newOf]at h ⊢;exact .inr ⟨AQ h,qa5 h⟩
 |b::bs,o::ids,base,n,j,id,h=>by
  simp only[nameAll]at h ⊢;cases j with
  |zero =>
   simp only[Aj,AH]at h;cases b <;> cases o <;> simp only at h <;> subst h
   ·exact .inr ⟨by simp[newOf],rfl⟩
   ·exact .inr ⟨by simp[newOf],rfl⟩
   ·exact .inr ⟨by simp[newOf],rfl⟩
   ·exact .inl ⟨rfl,rfl⟩
  |succ j =>
   rcases qip (by simpa using h)with⟨h1,h2⟩ | ⟨h1,h2⟩
   ·exact .inl ⟨by simpa using h1,by simpa using h2⟩
   ·refine .inr ⟨?_,by omega⟩;cases b <;> cases o <;> simp only[newOf] <;> first | exact AC _ h1 | exact h1
theorem qof{bs:List Bool}:∀ {ids:List (Option Nat)} {base n j id:Nat},bs[j]?=some true->ids[j]?=some (some id)->(nameAll base bs ids n)[j]?=some id:=by
 induction bs with
 |nil=>intro ids base n j id h;simp at h
 |cons b bs ih =>
  intro ids base n j id h1 h2;cases ids with
  |nil=>simp at h2
  |cons o ids =>
   simp only[nameAll];cases j with
   |zero=>simp at h1 h2;subst h1;subst h2;rfl
   |succ j=>simpa using ih (by simpa using h1) (by simpa using h2)
theorem qf7:∀ {bs:List Bool} {ids:List (Option Nat)} {p:Key×Ent},p∈tombsOf bs ids->∃(j id:Nat),ids[j]?=some (some id)/\p=(.head id,.tomb)
 |[],ids,p,h=>by simp[tombsOf]at h
 |b::bs,[],p,h=>by simp[tombsOf]at h
 |b::bs,o::ids,p,h=>by
  have rest:p∈tombsOf bs ids->∃(j id:Nat),(o::ids)[j]?=some (some id)/\p=(.head id,.tomb):=λh=>by
   obtain⟨j,id,h1,h2⟩:=qf7 h;exact⟨j+1,id,by simpa using h1,h2⟩
  cases b <;> cases o <;> simp only[tombsOf]at h
  ·exact rest h
  ·rcases Ar.1 h with rfl | h
   ·exact⟨0,_,rfl,rfl⟩
   ·exact rest h
  ·exact rest h
  ·exact rest h
theorem tombs_has{bs:List Bool}:∀ {ids:List (Option Nat)} {j id:Nat},bs[j]?=some false->ids[j]?=some (some id)->(Key.head id,Ent.tomb)∈tombsOf bs ids:=by
 induction bs with
 |nil=>intro ids j id h;simp at h
 |cons b bs ih =>
  intro ids j id h1 h2;cases ids with
  |nil=>simp at h2
  |cons o ids =>
   cases j with
   |zero=>simp at h1 h2;subst h1;subst h2;simp[tombsOf]
   |succ j =>
    have:=ih (by simpa using h1) (by simpa using h2);cases b <;> cases o <;> simp only[tombsOf] <;> first | exact AC _ this | exact this
theorem GSim.symm{x y:Gh×Sh}(h:GSim x y):GSim y x:=by
 obtain⟨h1,h2,h3,h4⟩:=h;refine⟨h1.symm,h2.symm,λh=>(h3 (h2.trans h)).symm,λh=>?_⟩;obtain⟨q1,q2⟩:=h4 (by rw[h1];exact h);exact⟨q1.symm,λh=>(q2 (h2.trans h)).symm⟩
theorem GSim.refl(x:Gh×Sh):GSim x x:=⟨rfl,rfl,λ_=>rfl,λ_=>⟨rfl,λ_=>rfl⟩⟩
theorem TRep.scalar{w:World}{S S2:Nat->Prop}:∀ {T:List Tok} {V:List Value} {L:List FV} {acc fin:GA},TRep w S T V L acc fin->scalarOut T=true->TRep w S2 T V L acc fin
 |[],V,L,acc,fin,h,_=>h
 |t::T,V,L,acc,fin,h,hs=>by
  cases t with
  |skip=>obtain⟨v,V',h1,h⟩:=h;exact⟨v,V',h1,h.scalar (by simpa[scalarOut]using hs)⟩
  |own sz=>simp[scalarOut]at hs
  |obj k=>obtain⟨g,vals,e,V',h1,h2,h3,h4,h⟩:=h;exact⟨g,vals,e,V',h1,h2,h3,h4,h.scalar (by simpa[scalarOut]using hs)⟩
  |ref j=>obtain⟨g,r,k,V',h1,h2,h3,h⟩:=h;exact⟨g,r,k,V',h1,h2,h3,h.scalar (by simpa[scalarOut]using hs)⟩
  |agg k=>obtain⟨cs,V',h1,h2,h⟩:=h;exact⟨cs,V',h1,h2,h.scalar (by simpa[scalarOut]using hs)⟩
  |clo fn k=>obtain⟨cs,V',h1,h2,h⟩:=h;exact⟨cs,V',h1,h2,h.scalar (by simpa[scalarOut]using hs)⟩
  |mapt kag ks z=>simp[scalarOut]at hs
  |lst sz=>simp[scalarOut]at hs
  |fpt sz=>simp[scalarOut]at hs
  |int k =>
   obtain⟨v,V',x,L',h1,h2,h3,h4,h⟩:=h;cases x <;> simp only[leafT]at h3;cases h4;exact⟨_,V',_,L',h1,h2,h3,.int _ _,h.scalar (by simpa[scalarOut]using hs)⟩
  |bool =>
   obtain⟨v,V',x,L',h1,h2,h3,h4,h⟩:=h;cases x <;> simp only[leafT]at h3;cases h4;exact⟨_,V',_,L',h1,h2,h3,.bool _,h.scalar (by simpa[scalarOut]using hs)⟩
  |str =>
   obtain⟨v,V',x,L',h1,h2,h3,h4,h⟩:=h;cases x <;> simp only[leafT]at h3;cases h4;exact⟨_,V',_,L',h1,h2,h3,.str _,h.scalar (by simpa[scalarOut]using hs)⟩
  |raw u =>
   obtain⟨v,V',x,L',h1,h2,h3,h4,h⟩:=h;cases x <;> simp only[leafT]at h3;cases h4;exact⟨_,V',_,L',h1,h2,h3,.raw _,h.scalar (by simpa[scalarOut]using hs)⟩
  |fn =>
   obtain⟨v,V',x,L',h1,h2,h3,h4,h⟩:=h;cases x <;> simp only[leafT]at h3;cases h4;exact⟨_,V',_,L',h1,h2,h3,.raw _,h.scalar (by simpa[scalarOut]using hs)⟩
 termination_by T=>T.length
def q27(G:GA)(b:Nat):Prop:=∃(i:Nat) (g:Gh) (sh:Sh),G[i]?=some (g,sh)/\g.nil=false/\b=g.blk
section
variable {X:Cx} {M:Mem} {a:Act} {w:World} {γ:Nat->Gh}
theorem rel_called{S1 S2 S' S'':Nat->Prop}{us0 fz:List (Key×Ent)}{ids:List (Option Nat)}{G fin':GA}{tin tout:List Tok}{V R:List Value}{L L':List FV}{w':World}{base n:Nat}{bs:List Bool}{ws:List (Key×Ent)}{rs:List SV}
  (h1:Rel X (fz++M) a w γ S1) (h:Rel X (us0++M) a w γ S2) (hus:qv M us0) (hG:All2 (GRel γ M) ids G) (hi:q4u M ids) (ha:q4g ids fz=true) (ha0:q4g ids us0=true)
  (_hT:TRep w S1 tin V L [] G) (hU:TRep w' S'' tout (V++R) L' [] fin') (hk:Keep ⟨w,S1,q27 G,0,λ_=>none⟩ w' S') (hgo:GOk ⟨w,S1,q27 G,0,λ_=>none⟩ w' S' fin') (hbl:bs.length=G.length) (hio:∀j:Nat,bs[j]?=some true->∃x y,G[j]?=some x/\fin'[j]?=some y/\GSim x y) (hfl:flatOk 0 tout=true)
  (hb:bld (nameAll base bs ids n) 0 tout L'=some (ws,rs,[])) (hfresh:∀id,id∈newOf bs ids (nameAll base bs ids n)->hdOf M id=none)
  (s12:∀b,S2 b->S1 b) (s2:∀b,S2 b->S'' b) (s':∀b,S'' b->S' b) (sf:∀b,S'' b->S2 b\/q27 G b\/w.heap.size<=b) :
  ∃ γ',Rel X (ws++(tombsOf bs ids++us0)++M) a w' γ' S''/\All2 (SRep w' S'' γ' (hdOf (ws++(tombsOf bs ids++us0)++M))) rs (V++R) /\
   ∀t,Mem.get (.slot t) (ws++(tombsOf bs ids++us0)++M)=Mem.get (.slot t) M:=by
 have gok1:GOk X w S1 G:=.of h1 hG hi ha;generalize hnm:nameAll base bs ids n=nm at hb hfresh;have hlen:bs.length=ids.length:=by rw[hG.len];exact hbl
 have hname:∀j id,nm[j]?=some id->(bs[j]?=some true/\ids[j]?=some (some id))\/(hdOf M id=none/\id=base+j):=λj id hj=>by
  subst hnm;rcases qip hj with q | ⟨q1,q2⟩
  ·exact .inl q
  ·exact .inr ⟨hfresh id q1,q2⟩
 have hidM:∀j id,ids[j]?=some (some id)->∃e,hdOf M id=some e/\((∃s xs,e=.vec s xs)\/(∃n,e=.obj n)\/∃kag ks z,e=.mapH kag ks z):=hi.live;have hinj:NInj nm:=λi j id q1 q2=>by
  rcases hname i id q1 with⟨_,p1⟩ | ⟨p1,p2⟩ <;> rcases hname j id q2 with⟨_,p3⟩ | ⟨p3,p4⟩
  ·exact hi.inj i j id p1 p3
  ·obtain⟨e,r,_⟩:=hidM i id p1;rw[p3]at r;cases r
  ·obtain⟨e,r,_⟩:=hidM j id p3;rw[p1]at r;cases r
  ·omega
 obtain⟨b1,b2⟩:=bld_keys hinj hb
 let γ':Nat->Gh:=λid=>if(hdOf M id).isSome=true then γ id else ghAt nm fin' id
 have hγold:∀id e,hdOf M id=some e->γ' id=γ id:=λid e he=>by simp[γ',he]
 let fin2:GA:=fin'.zipIdx.map λp=>((match nm[p.2]? with | some id=>γ' id | none=>p.1.1),p.1.2)
 have hf2:∀i:Nat,fin2[i]?=(fin'[i]?).map λ(x:Gh×Sh)=>((match nm[i]? with | some id=>γ' id | none=>x.1),x.2):=λi=>by
  simp only[fin2,Br,List.getElem?_zipIdx,AG];cases fin'[i]? <;> simp
 have htop:∀j id,bs[j]?=some true->ids[j]?=some (some id)->∃sh g',fin'[j]?=some (g',sh)/\G[j]?=some (γ id,sh)/\GSim (γ id,sh) (g',sh)/\∃e,hdOf M id=some e/\sh=(e.row,e.ob):=λj id q1 q2=>by
  obtain⟨⟨g,sh⟩,⟨g',sh'⟩,p1,p2,p3⟩:=hio j q1;obtain⟨y,r1,r2,e,r3,r4⟩:=hG.get j _ q2;rw[p1]at r1;cases r1;simp only at r2 r4;subst r2;have hs:sh=sh':=p3.1;subst hs;exact⟨sh,g',p2,p1,p3,e,r3,r4⟩
 have hsim:∀(i:Nat) (x y:Gh×Sh),fin'[i]?=some x->fin2[i]?=some y->GSim x y:=λi x y q1 q2=>by
  rw[hf2,q1]at q2;simp only[AE,AH]at q2;subst q2;cases hn:nm[i]? with
  |none=>exact .refl x
  |some id =>
   rcases hname i id hn with⟨p1,p2⟩ | ⟨p1,p2⟩
   ·obtain⟨sh,g',r1,r2,r3,e,r4,r5⟩:=htop i id p1 p2;rw[q1]at r1;cases r1;simp only[hγold id e r4];exact r3.symm
   ·have:γ' id=ghAt nm fin' id:=by simp[γ',p1]
    simp only[this,qb3 hinj i x.1 x.2 id q1 hn];exact .refl x
 have hU2:TRep w' S'' tout (V++R) L' [] fin2:=hU.sim (by simp[fin2]) hsim rfl;have hslot:∀t,Mem.get (.slot t) ws=none:=λt=>q5t λe he=>by
  obtain⟨i,id,_,_,q⟩:=b1 _ he;exact q.noSlot
 have htslot:∀k,(∀id,k≠.head id)->Mem.get k (tombsOf bs ids)=none:=λk hk=>q5t λe he=>by
  obtain⟨j,id,_,q⟩:=qf7 he;exact hk id (congrArg Prod.fst q)
 have huslot:∀k,(∀id,k≠.head id)->Mem.get k us0=none:=λk hk=>q5t λe he=>by
  obtain⟨id,s,xs,q,_⟩:=hus _ he;exact hk id (congrArg Prod.fst q)
 have hget:∀k,Mem.get k (ws++(tombsOf bs ids++us0)++M)=(Mem.get k ws).or ((Mem.get k (tombsOf bs ids)).or (Mem.get k (us0++M))):=λk=>by
  rw[Ap,Ap,Mem.get_append,Mem.get_append]
 obtain⟨_,k2,_,k4,k5⟩:=q7f (M':=ws++(tombsOf bs ids++us0)++M) (γ':=γ') (n:=0) hU2 hb (λp hp=>by rw[hget,b2 p hp];rfl) (λi g k id q1 q2=>by
  rw[hf2]at q1;cases hfi:fin'[i]? with
  |none=>rw[hfi]at q1;simp at q1
  |some x=>rw[hfi]at q1;simp only[AE,q2,AH,Bw]at q1;exact q1.1) (λi g q k h=>by simp at h) hfl
 have cases':∀id e,hdOf (ws++(tombsOf bs ids++us0)++M) id=some e ->
   ((Key.head id,e)∈ws)\/(e=.tomb/\Mem.get (.head id) ws=none)\/(hdOf (us0++M) id=some e/\Mem.get (.head id) ws=none/\some id ∉ ids/\∀j,Mem.get (.cell id j) ws=none):=λid e he=>by
  rw[hdOf,hget]at he;cases q1:Mem.get (.head id) ws with
  |some e'=>rw[q1]at he;cases he;exact .inl (get_mem q1)
  |none =>
   rw[q1,CH]at he;cases q2:Mem.get (.head id) (tombsOf bs ids)with
   |some e' =>
    rw[q2]at he;cases he;obtain⟨_,_,_,q⟩:=qf7 (get_mem q2);cases q;exact .inr (.inl ⟨rfl,rfl⟩)
   |none =>
    rw[q2,CH]at he;have hno:some id ∉ ids:=λhm=>by
     obtain⟨j,hj⟩:=Bu.1 hm;have hjl:j<bs.length:=by rw[hlen];exact(Am.1 hj).1
     cases hbj:bs[j]with
     |true =>
      obtain⟨sh,g',r1,_⟩:=htop j id (by rw[Ag hjl,hbj]) hj;obtain⟨id',e',p1,p2⟩:=k5 j _ (BL _) (by rw[hf2,r1];rfl);have:nm[j]?=some id:=by rw[<- hnm];exact qof (by rw[Ag hjl,hbj]) hj
      rw[this]at p1;cases p1;have:=b2 _ p2;simp only at this;rw[this]at q1;cases q1
     |false =>
      have hm:=tombs_has (bs:=bs) (by rw[Ag hjl,hbj]) hj;have:∀ {us:List (Key×Ent)} {k:Key} {e:Ent},(k,e)∈us->Mem.get k us≠none:=by
       intro us k e
       induction us with
       |nil=>intro h;simp at h
       |cons p us ih =>
        obtain⟨k',e'⟩:=p;intro h;rw[Mem.qj];split
        ·simp
        ·rename_i hk;rcases Ar.1 h with h | h
         ·cases h;exact absurd rfl hk
         ·exact ih h
      exact this hm q2
    refine .inr (.inr ⟨he,rfl,hno,λj=>q5t λe' hm=>?_⟩);obtain⟨i,id',_,p1,p2⟩:=b1 _ hm;have hid:id'=id:=q46.inj p2 (.inr ⟨j,rfl⟩);subst hid;rcases hname i id' p1 with⟨_,p3⟩ | ⟨p3,_⟩
    ·exact hno (AQ p3)
    ·have:=qv.qa6 hus p3;rw[show Mem.get (.head id') (us0++M)=hdOf (us0++M) id' from rfl,this]at he;cases he
 have hw0:∀b,b<w.heap.size->¬ q27 G b->w'.heap[b]?=w.heap[b]?:=hk.block;have hws:∀b,S2 b->w'.heap[b]?=w.heap[b]?:=λb hb=>hw0 b (h.keep.bound b hb) λ⟨i,g,sh,q1,q2,q3⟩=>by
  subst q3;exact(gok1.own i g sh q1 q2).2.1 (s12 _ hb)
 have hhd:HdLe (hdOf (us0++M)) (hdOf (ws++(tombsOf bs ids++us0)++M)) γ γ':=λid e he=>by
  have hM:∃e0,hdOf M id=some e0:=by
   cases q:hdOf M id with
   |some e0=>exact⟨e0,rfl⟩
   |none=>have:=qv.qa6 hus q;rw[this]at he;cases he
  obtain⟨e0,he0⟩:=hM;have hg:=hγold id e0 he0;cases q:hdOf (ws++(tombsOf bs ids++us0)++M) id with
  |none =>
   rw[hdOf,hget]at q;rw[show Mem.get (.head id) (us0++M)=some e from he]at q;simp at q
  |some e' =>
   refine⟨e',rfl,?_⟩;rcases cases' id e' q with q1 | ⟨q1,_⟩ | ⟨q1,_,_,_⟩
   ·obtain⟨_,i,g,_,p1,p2,p3⟩:=k4 id e' q1;rcases hname i id p1 with⟨p4,p5⟩ | ⟨p4,_⟩
    ·obtain⟨sh,g',r1,r2,r3,e1,r4,r5⟩:=htop i id p4 p5;have he1:hdOf (us0++M) id=hdOf M id:=qf8 ha0 (AQ p5);rw[he1,r4]at he;cases he;rw[hf2,r1]at p2;simp only[AE,AH,Bw]at p2;have hsh:(e.row,e.ob)=(e'.row,e'.ob):=by rw[<- r5];exact p2.2
     simp only[Bw]at hsh;refine .inr ⟨hsh.1.symm,hsh.2.symm,λht=>?_,hg⟩;subst ht;obtain⟨e2,t1,t2⟩:=hidM i id p5;rw[r4]at t1;cases t1;rcases t2 with⟨_,_,t2⟩ | ⟨_,t2⟩ | ⟨_,_,_,t2⟩ <;> cases t2
    ·rw[p4]at he0;cases he0
   ·exact .inl q1
   ·rw[he]at q1;cases q1;exact .inr ⟨rfl,rfl,λh=>h,hg⟩
 have hother:∀id e,hdOf (us0++M) id=some e->some id ∉ ids->Owned γ id e->¬ q27 G (γ id).blk:=λid e he hno ho ⟨i,g,sh,q1,q2,q3⟩=>by
  obtain⟨x,p1,p2⟩:=hG.getR i _ q1;cases x with
  |none=>obtain⟨p2,_⟩:=p2;simp only at p2;subst p2;simp at q2
  |some id' =>
   obtain⟨p2,e',p3,p4⟩:=p2;simp only at p2;subst p2;have he':hdOf (us0++M) id'=some e':=by rw[qf8 ha0 (AQ p1)];exact p3
   have ho':Owned γ id' e':=by
    obtain⟨e2,t1,t2⟩:=hidM i id' p1;rw[p3]at t1;cases t1;rcases t2 with⟨_,_,rfl⟩ | ⟨_,rfl⟩ | ⟨_,_,_,rfl⟩
    ·exact q2
    ·trivial
    ·trivial
   have:=h.inj id e id' e' he he' ho ho' q3;subst this;exact hno (AQ p1)
 have hgiven:∀b,q27 G b->b<w.heap.size/\(X.W0 b\/X.w0.heap.size<=b):=λb ⟨i,g,sh,q1,q2,q3⟩=>by
  subst q3;have:=gok1.own i g sh q1 q2;exact⟨this.1,this.2.2⟩
 have hsz:w.heap.size<=w'.heap.size:=hk.size;have hnew:∀id e,(Key.head id,e)∈ws->∃(i:Nat) (g':Gh),nm[i]?=some id/\fin'[i]?=some (g',(e.row,e.ob))/\(Owned γ' id e->g'.nil=false/\(γ' id).blk=g'.blk):=λid e hm=>by
  obtain⟨q0,i,g,_,p1,p2,p3⟩:=k4 id e hm;rw[hf2]at p2;cases hfi:fin'[i]? with
  |none=>rw[hfi]at p2;simp at p2
  |some x =>
   rw[hfi]at p2;simp only[AE,p1,AH,Bw]at p2;obtain⟨x1,x2⟩:=x;simp only at p2;refine⟨i,x1,p1,by rw[hfi,p2.2],λho=>?_⟩;have hs:=hsim i _ (γ' id,x2) hfi (by rw[hf2,hfi];simp[p1]);have hn:(γ' id).nil=false:=by
    rcases p3 with⟨_,_,rfl⟩ | ⟨_,rfl⟩ | ⟨_,_,_,rfl⟩
    ·exact ho
    ·exact q0.1
    ·exact q0.1
   have:x1.nil=false:=by have:=hs.2.1;simp only at this;rw[this];exact hn
   exact⟨this,(hs.2.2.1 this).symm⟩
 refine⟨γ',{ keep:=?_,head:=λid e he=>?_,own:=λid e he ho=>?_,inj:=λid e id' e' he he' ho ho' hbk=>?_,nt:=h.nt,q2o:=h.q2o,pin:=h.pin,slot:=λt s hs=>?_ },k2,λt=>?_⟩
 ·exact { size:=Bb h.keep.size hsz
          block:=λb q1 q2=>by
            rw[hw0 b (AR q1 h.keep.size) λhg=>?_,h.keep.block b q1 q2];rcases(hgiven b hg).2 with q | q
            · exact q2 q
            · omega
          os:=hk.os.trans h.keep.os,tape:=hk.tape.trans h.keep.tape,output:=hk.output.trans h.keep.output
          tab:=h.keep.tab
          bound:=λb q=>hk.bound b (s' b q),smon:=λb q=>s2 b (h.keep.smon b q)
          q8d:=λb q=>by
            rcases sf b q with q | q | q
            · exact h.keep.q8d b q
            · exact .inr (hgiven b q).2
            · exact .inr (.inr (Bb h.keep.size q)) }
 ·rcases cases' id e he with q1 | ⟨q1,_⟩ | ⟨q1,q2,q3,q4⟩
  ·exact(k4 id e q1).1
  ·subst q1;trivial
  ·have hM:∃e0,hdOf M id=some e0:=by
    cases q:hdOf M id with
    |some e0=>exact⟨e0,rfl⟩
    |none=>have:=qv.qa6 hus q;rw[this]at q1;cases q1
   obtain⟨e0,he0⟩:=hM;refine(h.head id e q1).go hws s2 hhd (hγold id e0 he0) (λj=>?_) λho=>?_
   ·rw[hget,q4,htslot _ (by simp)];simp
   ·exact hw0 _ (h.own id e q1 ho).1 (hother id e q1 q3 ho)
 ·rcases cases' id e he with q1 | ⟨q1,_⟩ | ⟨q1,q2,q3,q4⟩
  ·obtain⟨i,g',p1,p2,p3⟩:=hnew id e q1;obtain⟨p4,p5⟩:=p3 ho;obtain⟨r1,r2,r3⟩:=hgo.own i g' _ p2 p4;rw[p5];refine⟨r1,λq=>r2 (s' _ q),?_⟩;rcases r3 with r3 | r3
   ·exact(hgiven _ r3).2
   ·exact .inr (Bb h.keep.size r3)
  ·subst q1;exact ho.elim
  ·have hM:∃e0,hdOf M id=some e0:=by
    cases q:hdOf M id with
    |some e0=>exact⟨e0,rfl⟩
    |none=>have:=qv.qa6 hus q;rw[this]at q1;cases q1
   obtain⟨e0,he0⟩:=hM;have hg:=hγold id e0 he0;have ho':=Owned.congr hg ho;obtain⟨r1,r2,r3⟩:=h.own id e q1 ho';rw[hg];refine⟨AR r1 hsz,λq=>?_,r3⟩;rcases sf _ q with q | q | q
   ·exact r2 q
   ·exact hother id e q1 q3 ho' q
   ·omega
 ·have old:∀id e,hdOf (us0++M) id=some e->γ' id=γ id:=λid e he=>by
   cases q:hdOf M id with
   |some e0=>exact hγold id e0 q
   |none=>have:=qv.qa6 hus q;rw[this]at he;cases he
  have mix:∀id e id' e',(Key.head id,e)∈ws->Owned γ' id e->hdOf (us0++M) id'=some e'->some id' ∉ ids->Owned γ' id' e'->(γ' id).blk≠(γ' id').blk:=λid e id' e' q1 q2 q3 q4 q5 q6=>by
   obtain⟨i,g',p1,p2,p3⟩:=hnew id e q1;obtain⟨p4,p5⟩:=p3 q2;have hg:=old id' e' q3;have ho':=Owned.congr hg q5;have hlt:=(h.own id' e' q3 ho').1;have hno:=hother id' e' q3 q4 ho';rw[hg,p5]at q6;rcases(hgo.own i g' _ p2 p4).2.2 with r | r
   ·rw[q6]at r;exact hno r
   ·simp only at r;omega
  rcases cases' id e he with q1 | ⟨q1,_⟩ | ⟨q1,_,q3,_⟩
  ·rcases cases' id' e' he' with p1 | ⟨p1,_⟩ | ⟨p1,_,p3,_⟩
   ·obtain⟨i,g,r1,r2,r3⟩:=hnew id e q1;obtain⟨r4,r5⟩:=r3 ho;obtain⟨i',g',t1,t2,t3⟩:=hnew id' e' p1;obtain⟨t4,t5⟩:=t3 ho';have:=hgo.inj i i' g g' _ _ r2 t2 r4 t4 (by rw[<- r5,<- t5];exact hbk);subst this;rw[r1]at t1;cases t1;rfl
   ·subst p1;exact ho'.elim
   ·exact absurd hbk (mix id e id' e' q1 ho p1 p3 ho')
  ·subst q1;exact ho.elim
  ·rcases cases' id' e' he' with p1 | ⟨p1,_⟩ | ⟨p1,_,p3,_⟩
   ·exact absurd hbk.symm (mix id' e' id e p1 ho' q1 q3 ho)
   ·subst p1;exact ho'.elim
   ·have g1:=old id e q1;have g2:=old id' e' p1;rw[g1,g2]at hbk;exact h.inj id e id' e' q1 p1 (Owned.congr g1 ho) (Owned.congr g2 ho') hbk
 ·rw[hget,hslot,htslot _ (by simp)]at hs;simp only[CH]at hs;exact(h.slot t s hs).mono hws s2 hhd
 ·rw[hget,hslot,htslot _ (by simp),Mem.get_append,huslot _ (by simp)];simp
end
end
section
def Enters(P:Program)(f:FuncId):Prop:=∃fn,P.funcs[f]?=some fn/\fn.body.isSome=true/\(fn.name == "runtime.NumGoroutine")=false
def resV(R:List Value):Value:=match R with | [r]=>r | R=>.tuple R.toArray
def q2w(P:Program)(f:FuncId)(i:FnI)(L L':List FV):Prop :=
 ∀(w:World) (S:Nat->Prop) (V:List Value) (G:GA),(∀b,S b->b<w.heap.size)->Tabs w S->TRep w S i.tin V L [] G->GOk ⟨w,S,q27 G,0,λ_=>none⟩ w S G ->
  Calls P f V.toArray w λe w'=>∃S' fin' R,e=.returned (resV R)/\TRep w' S' i.tout (V++R) L' [] fin'/\Keep ⟨w,S,q27 G,0,λ_=>none⟩ w' S'/\GOk ⟨w,S,q27 G,0,λ_=>none⟩ w' S' fin'
def q52(E:Env)(call:FuncId->List FV->Res):Prop:=∀f i L L',E.fn f=some i->call f L=some L'->Enters E.P (vb f)/\q2w E.P (vb f) i L L'
section
variable {E:Env} {call:FuncId->List FV->Res} {X:Cx} {M:Mem} {a:Act} {w:World} {γ:Nat->Gh} {S:Nat->Prop} {us:List (Key×Ent)} {o:Oper}
theorem ql0{t:RT}:∀ {ids:List Nat},Gets (freshAll ids t) M us->(∀id,id∈ids->hdOf M id=none)/\Gets t M us
 |[],h=>⟨λid h=>by simp at h,h⟩
 |id::ids,h=>by
  unfold freshAll at h;obtain⟨h1,h2⟩:=q7h h;obtain⟨h3,h4⟩:=ql0 h2;exact⟨λi hi=>(Ar.1 hi).elim (λq=>by rw[q];exact h1) (h3 i),h4⟩
theorem ql1{k:IntKind}{x:Option FV}{n:Int}(h:asInt k x=some n):x=some (.int k n):=by
 unfold asInt at h;split at h
 ·split at h
  ·rename_i q;subst q;cases h;rfl
  ·simp at h
 ·simp at h
theorem qsq{x:Option FV}{n:Bool}(h:asBool x=some n):x=some (.bool n):=by
 unfold asBool at h;split at h
 ·cases h;rfl
 ·simp at h
theorem qsr{x:Option FV}{n:ByteArray}(h:asStr x=some n):x=some (.str n):=by
 unfold asStr at h;split at h
 ·cases h;rfl
 ·simp at h
theorem qgw{sz:Nat}{xs ys:List FV}{x:Option FV}(h:asLst sz x=some ys)(hx:x=some (.list sz xs)):ys=xs:=by
 subst hx;simp[asLst]at h;exact h.symm
theorem q8l{L:List FV}:∀ {T:List Tok} {j:Nat} {f:List FV->RT},Gets (dec L j T f) M us ->
  ∃L2,Gets (f L2) M us/\∀(w:World) (S:Nat->Prop) (V:List Value) (acc fin:GA),TRep w S T V (L.drop j) acc fin->L2=L.drop j
 |[],j,f,h=>⟨[],h,λw S V acc fin hT=>hT.2.1.symm⟩
 |t::T,j,f,h=>by
  have leaf:∀ {x:FV},(∀(w:World) (S:Nat->Prop) (V:List Value) (acc fin:GA),TRep w S (t::T) V (L.drop j) acc fin->∃V' acc',L[j]?=some x/\TRep w S T V' (L.drop (j+1)) acc' fin) ->
    Gets (dec L (j+1) T λr=>f (x::r)) M us->∃L2,Gets (f L2) M us/\∀(w:World) (S:Nat->Prop) (V:List Value) (acc fin:GA),TRep w S (t::T) V (L.drop j) acc fin->L2=L.drop j:=by
   intro x hx hg;obtain⟨L2,h1,h2⟩:=q8l hg;refine⟨x::L2,h1,λw S V acc fin hT=>?_⟩;obtain⟨V',acc',q1,q2⟩:=hx w S V acc fin hT;obtain⟨hlt,hxx⟩:=Am.1 q1;rw[h2 w S V' acc' fin q2,<- hxx,Bc hlt]
  have hd:∀ {y:FV} {L':List FV},L.drop j=y::L'->L[j]?=some y/\L'=L.drop (j+1):=fun {y L'} h=>by
   have hlt:j<L.length:=by
    apply BU;intro hn;rw[Fg (by omega)]at h;cases h
   rw[Bc hlt]at h;cases h;exact⟨Ag hlt,rfl⟩
  unfold dec at h;cases t with
  |int k =>
   obtain⟨n,h1,h2⟩:=qdk h;refine leaf (λw S V acc fin hT=>?_) h2;obtain⟨v,V',x,L',_,q,_,_,hT⟩:=hT;obtain⟨_,rfl⟩:=hd q;exact⟨V',acc,ql1 h1,hT⟩
  |bool =>
   obtain⟨n,h1,h2⟩:=qjk h;refine leaf (λw S V acc fin hT=>?_) h2;obtain⟨v,V',x,L',_,q,_,_,hT⟩:=hT;obtain⟨_,rfl⟩:=hd q;exact⟨V',acc,qsq h1,hT⟩
  |str =>
   obtain⟨n,h1,h2⟩:=qeh h;refine leaf (λw S V acc fin hT=>?_) h2;obtain⟨v,V',x,L',_,q,_,_,hT⟩:=hT;obtain⟨_,rfl⟩:=hd q;exact⟨V',acc,qsr h1,hT⟩
  |lst sz =>
   obtain⟨n,h1,h2⟩:=qag h;refine leaf (λw S V acc fin hT=>?_) h2;obtain⟨v,V',x,L',_,q,hl,_,hT⟩:=hT;obtain⟨q1,rfl⟩:=hd q;cases x <;> simp only[leafT]at hl;subst hl;have:=qgw h1 q1;subst this;exact⟨V',acc,q1,hT⟩
  |own sz =>
   obtain⟨n,h1,h2⟩:=qag h;refine leaf (λw S V acc fin hT=>?_) h2;obtain⟨g,xs,V',L',_,q,_,hT⟩:=hT;obtain⟨q1,rfl⟩:=hd q;have:=qgw h1 q1;subst this;exact⟨V',_,q1,hT⟩
  |fn=>exact(qg h).elim
  |fpt sz =>
   obtain⟨n,h1,h2⟩:=qag h;refine leaf (λw S V acc fin hT=>?_) h2;obtain⟨v,V',x,L',_,q,hl,_,hT⟩:=hT;obtain⟨q1,rfl⟩:=hd q;cases x <;> simp only[leafT]at hl;subst hl;rw[q1]at h1;simp only[asRef,Ba,AH]at h1;subst h1;exact⟨V',acc,q1,hT⟩
  |raw u =>
   refine leaf (λw S V acc fin hT=>?_) h;obtain⟨v,V',x,L',_,q,hl,_,hT⟩:=hT;obtain⟨q1,rfl⟩:=hd q;cases x <;> simp only[leafT]at hl;obtain⟨rfl,_⟩:=hl;exact⟨V',acc,q1,hT⟩
  |skip =>
   obtain⟨L2,h1,h2⟩:=q8l h;refine⟨L2,h1,λw S V acc fin hT=>?_⟩;obtain⟨v,V',_,hT⟩:=hT;exact h2 _ _ _ _ _ hT
  |obj k =>
   obtain⟨L2,h1,h2⟩:=q8l h;refine⟨L2,h1,λw S V acc fin hT=>?_⟩;obtain⟨g,vals,e,V',_,_,_,_,hT⟩:=hT;exact h2 _ _ _ _ _ hT
  |ref i =>
   obtain⟨L2,h1,h2⟩:=q8l h;refine⟨L2,h1,λw S V acc fin hT=>?_⟩;obtain⟨g,r,k,V',_,_,_,hT⟩:=hT;exact h2 _ _ _ _ _ hT
  |agg k =>
   obtain⟨L2,h1,h2⟩:=q8l h;refine⟨L2,h1,λw S V acc fin hT=>?_⟩;obtain⟨cs,V',_,_,hT⟩:=hT;exact h2 _ _ _ _ _ hT
  |clo fn k =>
   obtain⟨L2,h1,h2⟩:=q8l h;refine⟨L2,h1,λw S V acc fin hT=>?_⟩;obtain⟨cs,V',_,_,hT⟩:=hT;exact h2 _ _ _ _ _ hT
  |mapt kag ks z =>
   obtain⟨es,h1,h2⟩:=qag h;obtain⟨clk,h3,h4⟩:=qdk h2;obtain⟨L2,q1,q2⟩:=q8l h4;refine⟨_,q1,λw S V acc fin hT=>?_⟩;obtain⟨g,es',clk',V',L',_,q,_,_,hT⟩:=hT;obtain⟨p1,p2⟩:=hd q;have hlt:j+1<L.length:=by
    apply BU;intro hn;rw[Fg (by omega)]at p2;cases p2
   rw[Bc hlt]at p2;simp only[AY]at p2;obtain⟨p3,rfl⟩:=p2;have e1:=qgw h1 p1;subst e1;have e2:=ql1 h3;rw[Ag hlt,<- p3]at e2;simp only[AH,FV.int.injEq,CU]at e2;rw[q2 w S V' _ fin hT,q,e2]
theorem run_enter{P:Program}{f:FuncId}{args:Array Value}(h:Enters P f):(callFunc f args).run P w=.ok (.enter f args) w:=by
 obtain⟨fn,h1,h2,h3⟩:=h;have h4:fn.name ≠ "runtime.NumGoroutine":=by simpa using h3
 have h5:fn.body≠none:=by intro q;rw[q]at h2;cases h2
 simp[callFunc,h1,h4,h5,program,Sem.run]
theorem gok_self{S:Nat->Prop}{G:GA}(h:GOk X w S G):GOk ⟨w,S,q27 G,0,λ_=>none⟩ w S G :=
 ⟨λi g sh q1 q2=>let q:=h.own i g sh q1 q2;⟨q.1,q.2.1,.inl ⟨i,g,sh,q1,q2,rfl⟩⟩,h.inj⟩
theorem io_tops{w w':World}{S S':Nat->Prop}{T U:List Tok}{V R:List Value}{L L':List FV}{G fin':GA}(h:okIO T U=true)(hT:TRep w S T V L [] G)(hU:TRep w' S' U (V++R) L' [] fin') :
  (q5n T U).length=G.length/\∀j:Nat,(q5n T U)[j]?=some true->∃x y,G[j]?=some x/\fin'[j]?=some y/\GSim x y:=by
 have hl:=q7e (n:=0) hT;unfold okIO at h;unfold q5n;cases hg:giveOk T U with
 |false =>
  rw[hg,BT]at h;rw[Ab];refine⟨by simpa using hl.symm,λj hj=>?_⟩;obtain⟨x,y,p1,p2,p3⟩:=q3d (V1:=[]) (V2:=[]) h rfl rfl hT hU rfl j hj;exact⟨x,y,by simpa using p1,by simpa using p2,p3⟩
 |true =>
  rw[Ac];refine⟨?_,λj hj=>by cases j <;> simp at hj⟩;unfold giveOk at hg;split at hg
  ·simpa[tops]using hl.symm
  ·cases hg
theorem qss(hC:q52 E call)(h:Rel X M a w γ S){d:Nat}(hd:X.Dst d){f:FuncId}{svs:List SV}{V:List Value}(hs:All2 (SRep w S γ (hdOf M)) svs V)(hg:Gets (callOp0 E call (some d) f svs) M us) :
  Enters E.P (vb f)/\Calls E.P (vb f) V.toArray w λe w'=>∃v γ' S',e=.returned v/\Rel X (us++M) (a.put (some d) v) w' γ' S':=by
 unfold callOp0 at hg;split at hg
 ·rename_i i d' hi hd';cases hd';obtain⟨hb,hg⟩:=q15 hg;simp only[Ai]at hb;obtain⟨hio,hfi,hfo⟩:=hb;obtain⟨L,ids,fz,G,hG,hfz,_,hap,hids,_,hg1,hT⟩:=gets_ext h hs (acc:=[]) (accG:=[]) ⟨λj id h=>by simp at h,λi j id h=>by simp at h⟩ .nil (qv.nil M) hg;obtain⟨L',hcall,hg2⟩:=qag hg1;obtain⟨L2,hg3,hdec⟩:=q8l hg2;split at hg3
  ·rename_i ws rs hbld;obtain⟨hfr,hg4⟩:=ql0 hg3;have hus:=q2s hg4;obtain⟨hent,hspec⟩:=hC f i L L' hi hcall;refine⟨hent,?_⟩;obtain⟨S1,s1,_,hR1⟩:=h.q8h hfz;have hT1:=hT S1 s1 hR1;have gok1:GOk X w S1 G:=.of hR1 hG hids hap;refine(hspec w S1 V G hR1.keep.bound hR1.keep.tabs hT1 (gok_self gok1)).mono ?_;rintro e w' ⟨S',fin',R,rfl,hU,hk,hgo⟩;have hL2:L2=L':=by simpa using hdec w' S' (V++R) [] fin' (by simpa using hU)
   subst hL2;obtain⟨hbl,hio⟩:=io_tops hio hT1 hU;have fin:∃us0 S'',us=(.slot d,.sv (match rs.drop svs.length with | [r]=>r | rs=>.tup rs))::(ws++(tombsOf (q5n i.tin i.tout) ids++us0)) /\
     ∃ γ',Rel X (ws++(tombsOf (q5n i.tin i.tout) ids++us0)++M) a w' γ' S''/\All2 (SRep w' S'' γ' (hdOf (ws++(tombsOf (q5n i.tin i.tout) ids++us0)++M))) rs (V++R) /\
      ∀t,Mem.get (.slot t) (ws++(tombsOf (q5n i.tin i.tout) ids++us0)++M)=Mem.get (.slot t) M:=by
    cases hsc:scalarOut i.tout with
    |true =>
     rw[hsc]at hus;refine⟨[],S,hus,?_⟩
     exact rel_called hR1 (us0:=[]) (S2:=S) h (qv.nil M) hG hids hap (by
      clear hfr hus hG hap hids hT hT1 gok1 hg1
      induction ids with
      |nil=>rfl
      |cons _ _ _=>rfl) hT1 (hU.scalar hsc) hk hgo hbl hio hfo hbld hfr s1 (λb h=>h) (λb h=>hk.smon b (s1 b h)) (λb h=>.inl h)
    |false =>
     rw[hsc]at hus;refine⟨fz,S',hus,?_⟩;exact rel_called hR1 hR1 hfz hG hids hap hap hT1 hU hk hgo hbl hio hfo hbld hfr (λb h=>h) hk.smon (λb h=>h) hk.q8d
   obtain⟨us0,S'',hus2,γ',hR,hall,_⟩:=fin;have hres:=hall.drop svs.length;rw[hs.len,Eo rfl]at hres;refine⟨resV R,γ',S'',rfl,?_⟩;rw[hus2];refine hR.put hd ?_;rw[hs.len];generalize rs.drop V.length=qs at hres;cases hres with
   |nil=>exact .tup rfl (λj s hj=>by simp at hj)
   |cons hx hr =>
    cases hr with
    |nil=>exact hx
    |cons hy hr =>
     obtain⟨q1,q2⟩:=(All2.cons hx (.cons hy hr)).toArr (vs:=List.toArray _);exact .tup q1 q2
  ·exact(qg hg3).elim
 ·exact(qg hg).elim
theorem callOp_ok(hC:q52 E call)(h:Rel X M a w γ S){d:Nat}(hd:X.Dst d){f:FuncId}{svs:List SV}{V:List Value}(hs:All2 (SRep w S γ (hdOf M)) svs V)(hg:Gets (qbu E call (some d) f svs) M us) :
  Enters E.P f/\Calls E.P f V.toArray w λe w'=>∃v γ' S',e=.returned v/\Rel X (us++M) (a.put (some d) v) w' γ' S':=by
 unfold qbu at hg;obtain⟨hb,hg⟩:=q15 hg;have:=qss hC h hd hs hg;rw[Aw hb]at this;exact this
theorem sim_call{fx:Operand}{args:Array Operand}{ats:Array TypeId}(hC:q52 E call)(h:Rel X M a w γ S)(hd:∀d,o.dst=some d->X.Dst d)(hop:o.op=.call { callee:=.value fx,args:=args,argTypes:=ats })
  (hg0:Gets (rtOp E call o) M us):Goal E.P X M o a w us:=by
 simp only[rtOp,hop]at hg0;obtain⟨s,hs,hg1⟩:=q1j h hg0;obtain⟨ss,hl,hss,hg2⟩:=qbh h hg1;clear hg0 hg1;have hargs:All2 (SRep w S γ (hdOf M)) ss (args.map a.eval).toList:=.of (by simp[hl]) λj x y h1 h2=>by
  have hj:j<args.toList.length:=by rw[<- hl];exact(Am.1 h1).1
  obtain⟨s',q1,q2⟩:=hss j args.toList[j] (Ag hj);rw[h1]at q1;cases q1;rw[DH,Br,Ag hj]at h2;simp only[AE,AH]at h2;rw[<- h2];exact q2
 have fin:∀(g:FuncId) (cs:List SV) (c:Array Value),a.eval fx=.func (.func g) #[] c->All2 (SRep w S γ (hdOf M)) cs c.toList->Gets (qbu E call o.dst g (ss++cs)) M us->Goal E.P X M o a w us:=by
  intro g cs c hv hcs hg;cases hdst:o.dst with
  |none =>
       rw[hdst]at hg;unfold qbu at hg;obtain⟨_,hg⟩:=q15 hg;unfold callOp0 at hg;split at hg
       ·rename_i h;cases h
       ·exact(qg hg).elim
  |some d =>
   rw[hdst]at hg;obtain⟨hent,hcalls⟩:=callOp_ok hC h (hd d hdst) (hargs.app hcs) hg;have harr:((args.map a.eval).toList++c.toList).toArray=args.map a.eval++c:=by simp
   rw[harr]at hcalls;have hrun:(execOp a.eval o).run E.P w=.ok (.enter g (args.map a.eval++c)) w:=by
    simp[execOp,hop,resolve,hv,Deferred.ofValue,invoke,run_enter hent]
   intro next Q hn
   unfold Oper.wp;rw[hrun,Oper.upon_enter];refine hcalls.mono ?_;rintro e w' ⟨v,γ',S',rfl,hR⟩;rw[<- hdst]at hR;exact hn v w' γ' S' hR
 unfold callee at hg2;split at hg2
 ·rename_i g;have:=hs.qam;refine fin g [] #[] this .nil ?_;exact hg2
 ·rename_i g cs;obtain⟨f,c,hv,hf,hc,_,hr⟩:=hs.clo_inv;have:f=#[]:=by apply CZ;simpa using hf
  subst this;exact fin g cs c hv (.ofArr hc hr) hg2
 ·exact(qg hg2).elim
end
end
section
theorem qgh{d:Nat}:∀ {l:List Nat},notElem d l=true->d ∉ l
 |[],_=>by simp
 |x::r,h=>by
  simp only[notElem,Ai,Cm]at h;have h1:x≠d:=λe=>by subst e;simp at h
  simpa[BR h1]using qgh h.2
section
variable {E:Env} {call:FuncId->List FV->Res} {X:Cx} {M:Mem} {a:Act} {w:World} {γ:Nat->Gh} {S:Nat->Prop} {us:List (Key×Ent)} {o:Oper}
theorem sim_op(hE:q14 E)(hC:q52 E call)(h:Rel X M a w γ S){nt:Nat}{pins:List Nat}(hnt:nt<=X.nt)(hpin:∀d,d ∉ pins->X.pin d=none)(ho:opOk nt pins o=true)(hg:Gets (rtOp E call o) M us):Goal E.P X M o a w us:=by
 have hd:∀d,o.dst=some d->X.Dst d:=λd hd=>by
  simp only[opOk,hd,Ai]at ho;exact⟨AR (BB ho.1.1) hnt,hpin d (qgh ho.1.2)⟩
 cases hop:o.op with
 |move x=>exact qkb h hd (.inl hop) (by simpa only[rtOp,hop]using hg)
 |assign x=>exact qkb h hd (.inr hop) (by simpa only[rtOp,hop]using hg)
 |pick c x y=>exact sim_pick h hd hop hg
 |alloc t=>exact sim_alloc hE h hd hop hg
 |box t x=>exact sim_box hE h hd hop hg
 |build t ps=>exact sim_build hE h hd hop hg
 |buildSlice t n ps=>exact qqz hE h hd hop hg
 |load t x=>exact sim_load hE h hd hop hg
 |store t x y =>
  refine sim_store hE h hop ?_ hg;simp only[opOk,hop,Ai]at ho;cases hd':o.dst with
  |none=>rfl
  |some d=>rw[hd']at ho;simp at ho
 |nilCheck x=>exact qr2 h hd hop hg
 |binOp op t x y t'=>exact sim_binOp hE h hd hop hg
 |unOp op t x=>exact sim_unOp h hd hop hg
 |convert s d x=>exact qn2 hE h hd hop hg
 |makeFunc fn f c=>exact qqd h hd hop hg
 |makeSlice t x y=>exact qr1 hE h hd hop hg
 |slice t x l hi m=>exact sim_slice hE h hd hop hg
 |fieldAddr t x f=>exact qqe hE h hd hop hg
 |field t x f=>exact sim_field hE h hd hop hg
 |indexAddr t x y=>exact qqg hE h hd hop hg
 |index t x y=>exact sim_index hE h hd hop hg
 |extract x j=>exact qqf h hd hop hg
 |makeMap t r =>
  cases r with
  |none=>exact qqn hE h hd hop hg
  |some _=>simp only[rtOp,hop]at hg;exact(qg hg).elim
 |lookup t x y ok=>exact qqi hE h hd hop hg
 |mapUpdate t x y z=>exact qk0 hE h (.inl hop) hg
 |insert t x y z=>exact qk0 hE h (.inr hop) hg
 |mapEntry t x y=>exact qql hE h hd hop hg
 |entryStore t x y z=>exact qqm hE h hop hg
 |call c =>
  obtain⟨cl,args,ats⟩:=c;cases cl with
  |value fx=>exact sim_call hC h hd hop hg
  |builtin b=>exact qr3 hE h hd hop hg
  |invoke r m=>simp only[rtOp,hop]at hg;exact(qg hg).elim
 |_=>simp only[rtOp,hop]at hg;exact(qg hg).elim
theorem qgi{M M':Mem}:∀ {t:RT} {us:List (Key×Ent)} {lg:List Key},t.get M=some (us,lg)->(∀k,k∈lg->Mem.get k M'=Mem.get k M)->t.get M'=some (us,lg):=by
 intro t
 induction t with
 |ret us0=>intro us lg h _;simpa[RT.get]using h
 |fail=>intro us lg h _;simp[RT.get]at h
 |rd k f ih =>
  intro us lg h hk;simp only[RT.get]at h ⊢;cases he:Mem.get k M with
  |none=>simp[he]at h
  |some e =>
   simp only[he]at h;cases hf:(f e).get M with
   |none=>simp[hf]at h
   |some r =>
    simp only[hf,AE,AH,Bw]at h;obtain⟨h1,h2⟩:=h;rw[hk k (by rw[<- h2];exact AJ),he];simp only;rw[ih e hf (λk' hk'=>hk k' (by rw[<- h2];exact AC _ hk'))];simp[h1,h2]
 |fresh id t ih =>
  intro us lg h hk;simp only[RT.get]at h ⊢;cases he:Mem.get (.head id) M with
  |some e=>simp[he]at h
  |none =>
   simp only[he]at h;cases hf:t.get M with
   |none=>simp[hf]at h
   |some r =>
    simp only[hf,AE,AH,Bw]at h;obtain⟨h1,h2⟩:=h;rw[hk (.head id) (by rw[<- h2];exact AJ),he];simp only;rw[ih hf (λk' hk'=>hk k' (by rw[<- h2];exact AC _ hk'))];simp[h1,h2]
 |int x f ih =>
  intro us lg h hk;simp only[RT.get]at h ⊢;cases x with
  |none=>simp at h
  |some n=>exact ih n h hk
 |nat x f ih =>
  intro us lg h hk;simp only[RT.get]at h ⊢;cases x with
  |none=>simp at h
  |some n=>exact ih n h hk
 |boo x f ih =>
  intro us lg h hk;simp only[RT.get]at h ⊢;cases x with
  |none=>simp at h
  |some n=>exact ih n h hk
 |str x f ih =>
  intro us lg h hk;simp only[RT.get]at h ⊢;cases x with
  |none=>simp at h
  |some n=>exact ih n h hk
 |lst x f ih =>
  intro us lg h hk;simp only[RT.get]at h ⊢;cases x with
  |none=>simp at h
  |some n=>exact ih n h hk
 |cnd b t e iht ihe =>
  intro us lg h hk;simp only[RT.get]at h ⊢;cases b
  ·exact ihe h hk
  ·exact iht h hk
theorem run_get{M:Mem}{R:List FV}:∀ {t:RT} {lg:List Key} {K:List (Key×Ent)->List Key->Res},t.run M lg K=some R ->
  ∃us l,t.get M=some (us,l)/\K us (l.reverse++lg)=some R:=by
 intro t
 induction t with
 |ret us0=>intro lg K h;exact⟨us0,[],rfl,h⟩
 |fail=>intro lg K h;simp[RT.run]at h
 |rd k f ih =>
  intro lg K h;simp only[RT.run]at h;simp only[RT.get];cases he:Mem.get k M with
  |none=>simp[he]at h
  |some e =>
   simp only[he]at h;obtain⟨us,l,h1,h2⟩:=ih e h;exact⟨us,k::l,by simp[h1],by simpa using h2⟩
 |fresh id t ih =>
  intro lg K h;simp only[RT.run]at h;simp only[RT.get];cases he:Mem.get (.head id) M with
  |some e=>simp[he]at h
  |none =>
   simp only[he]at h;obtain⟨us,l,h1,h2⟩:=ih h;exact⟨us,.head id::l,by simp[h1],by simpa using h2⟩
 |int x f ih =>
  intro lg K h;simp only[RT.run]at h;cases x with
  |none=>simp at h
  |some n=>exact ih n h
 |nat x f ih =>
  intro lg K h;simp only[RT.run]at h;cases x with
  |none=>simp at h
  |some n=>exact ih n h
 |boo x f ih =>
  intro lg K h;simp only[RT.run]at h;cases x with
  |none=>simp at h
  |some n=>exact ih n h
 |str x f ih =>
  intro lg K h;simp only[RT.run]at h;cases x with
  |none=>simp at h
  |some n=>exact ih n h
 |lst x f ih =>
  intro lg K h;simp only[RT.run]at h;cases x with
  |none=>simp at h
  |some n=>exact ih n h
 |cnd b t e iht ihe =>
  intro lg K h;simp only[RT.run]at h;cases b
  ·exact ihe h
  ·exact iht h
def StepOk(E:Env)(call:FuncId->List FV->Res)(ops:Array Oper)(o:Oper)(M:Mem)(us:List (Key×Ent))(lg:List Key):Prop :=
 match o.guard with
 |none=>∃l,(rtOp E call o).get M=some (us,l)/\∀k,k∈l->k∈lg
 |some (j,want)=>(∃g b,(ops[j]?).bind (·.dst)=some g/\M.get (.slot g)=some (.sv (.fv (.bool b)))/\Key.slot g∈lg /\
   ((b=want/\∃l,(rtOp E call o).get M=some (us,l)/\∀k,k∈l->k∈lg)\/(b≠want/\us=match o.dst with | some d=>[(.slot d,.sv .gone)] | none=>[]))) \/
   ∃g,(ops[j]?).bind (·.dst)=some g/\M.get (.slot g)=some (.sv .gone)/\Key.slot g∈lg/\us=match o.dst with | some d=>[(.slot d,.sv .gone)] | none=>[]
theorem SRep.gone_inv{hd:Nat->Option Ent}{v:Value}(h:SRep w S γ hd .gone v):v=undef:=by
 cases h with
 |gone=>rfl
 |tomb hs _=>simp[SV.refId]at hs
theorem StepOk.near{ops:Array Oper}{M':Mem}{lg:List Key}(h:StepOk E call ops o M us lg)(hk:∀k,k∈lg->Mem.get k M'=Mem.get k M):StepOk E call ops o M' us lg:=by
 unfold StepOk at h ⊢;split
 ·rename_i hgd;rw[hgd]at h;obtain⟨l,h1,h2⟩:=h;exact⟨l,qgi h1 λk q=>hk k (h2 k q),h2⟩
 ·rename_i j want hgd;rw[hgd]at h;rcases h with⟨g,b,h1,h2,h3,h4⟩ | ⟨g,h1,h2,h3,h4⟩
  ·refine .inl ⟨g,b,h1,by rw[hk _ h3];exact h2,h3,?_⟩;rcases h4 with⟨h4,l,h5,h6⟩ | h4
   ·exact .inl ⟨h4,l,qgi h5 λk q=>hk k (h6 k q),h6⟩
   ·exact .inr h4
  ·exact .inr ⟨g,h1,by rw[hk _ h3];exact h2,h3,h4⟩
theorem qi1{ops:Array Oper}{i:Nat}{lg:List Key}(hE:q14 E)(hC:q52 E call)(h:Rel X M a w γ S){nt:Nat}{pins:List Nat}(hnt:nt<=X.nt)(hpin:∀d,d ∉ pins->X.pin d=none)(ho:opOk nt pins o=true)(hi:ops[i]?=some o)(hs:StepOk E call ops o M us lg)
  {next:Act->World->Prop} {Q:Exit->Act->World->Prop} (hn:∀a' w' γ' S',Rel X (us++M) a' w' γ' S'->next a' w'):wpOp E.P ops Q i next a w:=by
 unfold wpOp;simp only[hi];have skip:us=(match o.dst with | some d=>[(.slot d,.sv .gone)] | none=>[])->next (a.put o.dst undef) w:=λhus=>by
  have hd:∀d,o.dst=some d->X.Dst d:=λd hd=>by
   simp only[opOk,hd,Ai]at ho;exact⟨AR (BB ho.1.1) hnt,hpin d (qgh ho.1.2)⟩
  cases hdst:o.dst with
  |none=>rw[hdst]at hus;subst hus;exact hn _ _ _ _ h
  |some d =>
   rw[hdst]at hus;subst hus;exact hn _ _ _ _ (h.put (hd d hdst) .gone)
 have exec:(∃l,(rtOp E call o).get M=some (us,l))->o.wp E.P a w next Q:=λ⟨l,hl⟩ =>
  sim_op hE hC h hnt hpin ho ⟨l,hl⟩ next Q λv w' γ' S' hR=>hn _ _ _ _ hR
 unfold StepOk at hs;cases hgd:o.guard with
 |none =>
  rw[hgd]at hs;obtain⟨l,h1,_⟩:=hs;have:Region.wanted o (yielded ops a.tmps)=true:=by simp[Region.wanted,hgd]
  rw[this,if_pos rfl];exact .inl (exec ⟨l,h1⟩)
 |some gw =>
  obtain⟨j,want⟩:=gw;rw[hgd]at hs;rcases hs with⟨g,b,h1,h2,_,h3⟩ | ⟨g,h1,h2,_,h4⟩
  case inr =>
   have hy:yielded ops a.tmps j=none:=by
    have:a.tmps.getD g undef=undef:=(h.slot g _ h2).gone_inv;simp only[yielded,h1];rw[Az]at this;cases hq:a.tmps[g]? with
    |none=>simp[hq]
    |some v=>rw[hq]at this;simp at this;subst this;simp[hq,undef]
   have hw:Region.wanted o (yielded ops a.tmps)=false:=by simp[Region.wanted,hgd,hy]
   rw[hw];simp only[Bs,BM];exact skip h4
  have hy:yielded ops a.tmps j=some b:=by
   have:=(h.slot g _ h2).q51;simp only[yielded,h1];rw[Az]at this;cases hq:a.tmps[g]? with
   |none=>rw[hq]at this;simp[undef]at this
   |some v=>rw[hq]at this;simp at this;subst this;simp[hq]
  have hw:Region.wanted o (yielded ops a.tmps)=(b==want):=by simp[Region.wanted,hgd,hy]
  rcases h3 with⟨rfl,l,h4,_⟩ | ⟨hne,h4⟩
  ·rw[hw];simp only[Bi,Ba];exact .inl (exec ⟨l,h4⟩)
  ·rw[hw];have:(b==want)=false:=by cases b <;> cases want <;> simp_all
   rw[this];simp only[Bs,BM];exact skip h4
abbrev Tr:=List (List (Key×Ent)×List Key)
def seqM(tr:Tr)(M:Mem):Nat->Mem
 |0=>M
 |i+1=>((tr[i]?).map (·.1)).getD []++seqM tr M i
def MEq(M M':Mem):Prop:=∀k,Mem.get k M'=Mem.get k M
theorem MEq.app{M M':Mem}(h:MEq M M')(us:List (Key×Ent)):MEq (us++M) (us++M'):=λk=>by rw[Mem.get_append,Mem.get_append,h k]
theorem qgj(u:List (Key×Ent)×List Key)(tr:Tr)(M:Mem):∀i,seqM (u::tr) M (i+1)=seqM tr (u.1++M) i
 |0=>by simp[seqM]
 |i+1=>by
  have:=qgj u tr M i;rw[seqM,this,seqM];simp
theorem qgk{tr:Tr}{M M':Mem}(h:MEq M M'):∀i,MEq (seqM tr M i) (seqM tr M' i)
 |0=>h
 |i+1=>(qgk h i).app _
theorem qjh{ops:Array Oper}{R:List FV}:∀ {r:List Oper} {M:Mem} {fs:List Fp} {K:Mem->List Fp->Res},evOps E call ops r M fs K=some R ->
  ∃(tr:Tr) (M':Mem),tr.length=r.length/\(∀(i:Nat) (o:Oper) (u:List (Key×Ent)×List Key),r[i]?=some o->tr[i]?=some u->StepOk E call ops o (seqM tr M i) u.1 u.2)/\MEq (seqM tr M r.length) M' /\
   K M' ((tr.map λu=>(u.2,q2a u.1)).reverse++fs)=some R
 |[],M,fs,K,h=>⟨[],M,rfl,λi o u h=>by simp at h,λ_=>rfl,by simpa[evOps]using h⟩
 |o::r,M,fs,K,h=>by
  simp only[evOps]at h;have fin:∀ {us:List (Key×Ent)} {lg:List Key} {M1:Mem},MEq (us++M) M1->StepOk E call ops o M us lg->evOps E call ops r M1 ((lg,q2a us)::fs) K=some R ->
    ∃(tr:Tr) (M':Mem),tr.length=(o::r).length/\(∀(i:Nat) (o':Oper) (u:List (Key×Ent)×List Key),(o::r)[i]?=some o'->tr[i]?=some u->StepOk E call ops o' (seqM tr M i) u.1 u.2) /\
     MEq (seqM tr M (o::r).length) M'/\K M' ((tr.map λu=>(u.2,q2a u.1)).reverse++fs)=some R:=by
   intro us lg M1 hM hs h1;obtain⟨tr,M',t1,t2,t3,t4⟩:=qjh h1;refine⟨(us,lg)::tr,M',by simp[t1],λi o' u h2 h3=>?_,?_,by simpa using t4⟩
   ·cases i with
    |zero=>simp at h2 h3;subst h2;subst h3;exact hs
    |succ i =>
     rw[qgj];exact(t2 i o' u (by simpa using h2) (by simpa using h3)).near λk _=>(qgk hM i k).symm
   ·rw[Aq,qgj];exact λk=>(t3 k).trans (qgk hM r.length k)
  cases hgd:o.guard with
  |none =>
   rw[hgd]at h;obtain⟨us,l,h1,h2⟩:=run_get h;refine fin (us:=us) (lg:=l.reverse++[]) (λ_=>rfl) ?_ (by simpa[q2a]using h2);unfold StepOk;rw[hgd];exact⟨l,h1,λk hk=>by simpa using hk⟩
  |some gw =>
   obtain⟨j,want⟩:=gw;rw[hgd]at h;simp only at h;split at h
   ·rename_i g hg;split at h
    ·rename_i b hb;have hput:∀b',b'=b->MEq M ((.slot g,.sv (.fv (.bool b')))::M):=λb' hbb k=>by
      rw[Mem.qj];split
      ·rename_i hk;subst hk;rw[hb,hbb]
      ·rfl
     have exec:∀b',b'=b->b=want->(rtOp E call o).run ((.slot g,.sv (.fv (.bool b')))::M) [.slot g] (λus lg=>evOps E call ops r (us++((.slot g,.sv (.fv (.bool b')))::M)) ((lg,q2a us++q2a [])::fs) K)=some R ->
       ∃(tr:Tr) (M':Mem),tr.length=(o::r).length/\(∀(i:Nat) (o':Oper) (u:List (Key×Ent)×List Key),(o::r)[i]?=some o'->tr[i]?=some u->StepOk E call ops o' (seqM tr M i) u.1 u.2) /\
     MEq (seqM tr M (o::r).length) M'/\K M' ((tr.map λu=>(u.2,q2a u.1)).reverse++fs)=some R:=λb' hbb hbw h1=>by
      obtain⟨us,l,h2,h3⟩:=run_get h1;refine fin (us:=us) (lg:=l.reverse++[.slot g]) ((hput b' hbb).app us) ?_ (by simpa[q2a]using h3);unfold StepOk;rw[hgd];exact .inl ⟨g,b,hg,hb,by simp,.inl ⟨hbw,l,qgi h2 λk _=>(hput b' hbb k).symm,λk hk=>by simp[hk]⟩⟩
     have skip:∀b',b'=b->b≠want->(match o.dst with
       |some d=>evOps E call ops r ((.slot d,.sv .gone)::(.slot g,.sv (.fv (.bool b')))::M) (([.slot g],[.slot d])::fs) K
       |none=>evOps E call ops r ((.slot g,.sv (.fv (.bool b')))::M) (([.slot g],[])::fs) K)=some R ->
       ∃(tr:Tr) (M':Mem),tr.length=(o::r).length/\(∀(i:Nat) (o':Oper) (u:List (Key×Ent)×List Key),(o::r)[i]?=some o'->tr[i]?=some u->StepOk E call ops o' (seqM tr M i) u.1 u.2) /\
     MEq (seqM tr M (o::r).length) M'/\K M' ((tr.map λu=>(u.2,q2a u.1)).reverse++fs)=some R:=λb' hbb hbw h1=>by
      cases hdst:o.dst with
      |none =>
       rw[hdst]at h1;refine fin (us:=[]) (lg:=[.slot g]) (hput b' hbb) ?_ (by simpa[q2a]using h1);unfold StepOk;rw[hgd];exact .inl ⟨g,b,hg,hb,by simp,.inr ⟨hbw,by rw[hdst]⟩⟩
      |some d =>
       rw[hdst]at h1;refine fin (us:=[(.slot d,.sv .gone)]) (lg:=[.slot g]) ((hput b' hbb).app [(.slot d,.sv .gone)]) ?_ (by simpa[q2a]using h1);unfold StepOk;rw[hgd];exact .inl ⟨g,b,hg,hb,by simp,.inr ⟨hbw,by rw[hdst]⟩⟩
     cases b <;> cases want
     ·exact exec false rfl rfl h
     ·exact skip false rfl (by simp) h
     ·exact skip true rfl (by simp) h
     ·exact exec true rfl rfl h
    ·rename_i hb;cases hdst:o.dst with
     |none =>
      rw[hdst]at h;refine fin (us:=[]) (lg:=[.slot g]) (λ_=>rfl) ?_ (by simpa[q2a]using h);unfold StepOk;rw[hgd];exact .inr ⟨g,hg,hb,by simp,by rw[hdst]⟩
     |some d =>
      rw[hdst]at h;refine fin (us:=[(.slot d,.sv .gone)]) (lg:=[.slot g]) (λ_=>rfl) ?_ (by simpa[q2a]using h);unfold StepOk;rw[hgd];exact .inr ⟨g,hg,hb,by simp,by rw[hdst]⟩
    ·simp at h
   ·simp at h
theorem qji{ops:Array Oper}{nt:Nat}{pins:List Nat}(hE:q14 E)(hC:q52 E call)(hnt:nt<=X.nt)(hpin:∀d,d ∉ pins->X.pin d=none)(hops:∀(i:Nat) (o:Oper),ops[i]?=some o->opOk nt pins o=true){tr:Tr}(hlen:tr.length=ops.size)
  (htr:∀(i:Nat) (o:Oper) (u:List (Key×Ent)×List Key),ops[i]?=some o->tr[i]?=some u->StepOk E call ops o (seqM tr M i) u.1 u.2) {Q:Exit->Act->World->Prop}
  (hQ:∀a' w' γ' S',Rel X (seqM tr M ops.size) a' w' γ' S'->Q .normal a' w') :
  ∀(n i:Nat) (a:Act) (w:World) (γ:Nat->Gh) (S:Nat->Prop),i+n=ops.size->Rel X (seqM tr M i) a w γ S->wpOps E.P ops Q (List.range' i n) a w
 |0,i,a,w,γ,S,hi,h=>by
  have:i=ops.size:=by omega
  subst this;exact hQ a w γ S h
 |n+1,i,a,w,γ,S,hi,h=>by
  rw[BS,wpOps_cons];have hlt:i<ops.size:=by omega
  have ho:ops[i]?=some ops[i]:=Bo hlt;have hu:tr[i]?=some tr[i]:=Ag (by omega);refine qi1 hE hC h hnt hpin (hops i _ ho) ho (htr i _ _ ho hu) λa' w' γ' S' hR=>?_;refine qji hE hC hnt hpin hops hlen htr hQ n (i+1) a' w' γ' S' (by omega) ?_;rw[seqM,hu];exact hR
end
end
section
theorem qhu(g:Array Nat->Oper->Nat):∀(l:List Oper) (A:Array Nat),(l.foldl (λacc o=>acc.push (g acc o)) A).size=A.size+l.length/\(∀i,i<A.size->(l.foldl (λacc o=>acc.push (g acc o)) A)[i]?=A[i]?) /\
  ∀(j:Nat) (o:Oper),l[j]?=some o->∃C:Array Nat,(l.foldl (λacc o=>acc.push (g acc o)) A)[A.size+j]?=some (g C o)/\C.size=A.size+j/\∀i,i<C.size->C[i]?=(l.foldl (λacc o=>acc.push (g acc o)) A)[i]?
 |[],A=>⟨by simp,λi _=>rfl,λj o h=>by simp at h⟩
 |o::l,A=>by
  rw[Bf];obtain⟨h1,h2,h3⟩:=qhu g l (A.push (g A o));have hs:(A.push (g A o)).size=A.size+1:=by simp
  refine⟨by rw[h1,hs];simp;omega,λi hi=>?_,λj o' hj=>?_⟩
  ·rw[h2 i (by rw[hs];omega),Fs hi,Bo hi]
  ·cases j with
   |zero =>
    simp at hj;subst hj;refine⟨A,?_,by simp,λi hi=>?_⟩
    ·rw[Ay,h2 A.size (by rw[hs];omega)];simp
    ·rw[h2 i (by rw[hs];omega),Fs hi,Bo hi]
   |succ j =>
    obtain⟨C,q1,q2,q3⟩:=h3 j o' (by simpa using hj);rw[hs]at q1 q2;exact⟨C,by rw[<- q1];congr 1;omega,by omega,q3⟩
theorem qhv{acc:Array Nat}{i:Nat}:∀ {l:List Edge} {s:Nat},(l.foldl (λs e=>if Region.binds .any e then s ||| 2^e.on ||| acc.getD e.on 0 else s) s).testBit i=true ->
  s.testBit i=true\/∃e,e∈l/\Region.binds .any e=true/\(e.on=i\/(acc.getD e.on 0).testBit i=true)
 |[],s,h=>.inl h
 |e::l,s,h=>by
  rw[Bf]at h;rcases qhv h with h1 | ⟨e',h1,h2⟩
  ·split at h1
   ·rename_i hb;rw[Nat.testBit_or,Nat.testBit_or,Nat.testBit_two_pow]at h1;simp only[DO,At]at h1;rcases h1 with(h1 | h1) | h1
    ·exact .inl h1
    ·exact .inr ⟨e,AJ,hb,.inl h1⟩
    ·exact .inr ⟨e,AJ,hb,.inr h1⟩
   ·exact .inl h1
  ·exact .inr ⟨e',AC _ h1,h2⟩
theorem qmy{ops:Array Oper}{j:Nat}{o:Oper}(ho:ops[j]?=some o){i:Nat}(h:((Region.before ops).getD j 0).testBit i=true) :
  ∃e,e∈o.after.toList/\Region.binds .any e=true/\(e.on=i\/((Region.before ops).getD e.on 0).testBit i=true):=by
 have hb:Region.before ops=ops.toList.foldl (λacc o=>acc.push (o.after.toList.foldl (λs e=>if Region.binds .any e then s ||| 2^e.on ||| acc.getD e.on 0 else s) 0)) #[]:=by
  unfold Region.before;rw[<- EE];congr 1;funext acc o;rw[<- EE]
 obtain⟨h1,h2,h3⟩:=qhu (λacc o=>o.after.toList.foldl (λs e=>if Region.binds .any e then s ||| 2^e.on ||| acc.getD e.on 0 else s) 0) ops.toList #[];obtain⟨C,q1,q2,q3⟩:=h3 j o (by rw[BA];exact ho);rw[<- hb]at h1 h2 q1 q3;simp only[List.size_toArray,Be,AG]at q1 q2;rw[Az,q1,Bg]at h;rcases qhv h with h | ⟨e,e1,e2,e3⟩
 ·simp at h
 ·refine⟨e,e1,e2,?_⟩;rcases e3 with e3 | e3
  ·exact .inl e3
  ·right;rw[Az]at e3 ⊢;by_cases hlt:e.on<C.size
   ·rw[<- q3 e.on hlt];exact e3
   ·rw[Dd (by omega)]at e3;simp at e3
theorem qef{a b:List Key}(h:qat a b=true):∀k,k∈a->k ∉ b:=λk ha hb=>by
 simp only[qat,Av,Cm,DP]at h;exact h k ha k hb ((Key.beq_iff k k).2 rfl)
structure Apart(f g:Fp):Prop where
 wr:∀k,k∈f.2->k ∉ g.1
 rw:∀k,k∈g.2->k ∉ f.1
 ww:∀k,k∈f.2->k ∉ g.2
theorem qhw{bj:Nat}{f:Fp}:∀ {gs:List Fp} {i:Nat},fpOk.inner bj f i gs=true->∀(q:Nat) (g:Fp),q<=i->gs[q]?=some g->bj.testBit (i-q)=true\/Apart f g
 |[],i,_,q,g,_,h=>by simp at h
 |g0::gs,i,h,q,g,hq,hg=>by
  simp only[fpOk.inner,Ai,DO]at h;cases q with
  |zero =>
   simp at hg;subst hg;rcases h.1 with h1 | h1
   ·exact .inl h1
   ·exact .inr ⟨qef h1.1.1,qef h1.1.2,qef h1.2⟩
  |succ q =>
   have:=qhw h.2 q g (by omega) (by simpa using hg);rwa[show i-1-q=i-(q+1) by omega]at this
theorem qhx{before:Array Nat}:∀ {fs:List Fp} {k:Nat},fpOk before k fs=true->fs.length<=k+1->∀(p q:Nat) (f g:Fp),p<q->fs[p]?=some f->fs[q]?=some g->(before.getD (k-p) 0).testBit (k-q)=true\/Apart f g
 |[],k,_,_,p,q,f,g,_,h,_=>by simp at h
 |f0::fs,k,h,hl,p,q,f,g,hpq,hf,hg=>by
  simp only[fpOk,Ai]at h;have hql:=(Am.1 hg).1;simp only[Aq]at hl hql;obtain⟨q',rfl⟩:∃q',q=q'+1:=⟨q-1,by omega⟩;cases p with
  |zero =>
   simp at hf;subst hf;have:=qhw h.1 q' g (by omega) (by simpa using hg);rwa[show k-1-q'=k-(q'+1) by omega]at this
  |succ p =>
   have:=qhx h.2 (by omega) p q' f g (by omega) (by simpa using hf) (by simpa using hg);rwa[show k-1-p=k-(p+1) by omega,show k-1-q'=k-(q'+1) by omega]at this
theorem fpOk_tr{before:Array Nat}{tr:Tr}{n:Nat}(hn:tr.length=n)(h:fpOk before (n-1) (tr.map λu=>(u.2,q2a u.1)).reverse=true)(i j:Nat)(u v:List (Key×Ent)×List Key)(hij:i<j)(hi:tr[i]?=some u)(hj:tr[j]?=some v) :
  (before.getD j 0).testBit i=true\/Apart (v.2,q2a v.1) (u.2,q2a u.1):=by
 have hjl:=(Am.1 hj).1;have hg:∀(m:Nat) (x:List (Key×Ent)×List Key),tr[m]?=some x->((tr.map λu=>(u.2,q2a u.1)).reverse)[n-1-m]?=some (x.2,q2a x.1):=λm x hm=>by
  have hml:=(Am.1 hm).1;rw[List.getElem?_reverse (by simp;omega)];simp only[Aa,Br,hn];rw[show n-1-(n-1-m)=m by omega,hm];rfl
 have:=qhx h (by simp;omega) (n-1-j) (n-1-i) _ _ (by omega) (hg j v hj) (hg i u hi);rwa[show n-1-(n-1-j)=j by omega,show n-1-(n-1-i)=i by omega]at this
def Topo(ops:Array Oper):Prop:=∀(i:Nat) (o:Oper),ops[i]?=some o->∀e,e∈o.after.toList->Region.binds .any e=true->e.on<i
theorem qhy{i:Nat}:∀ {l:List Edge},topoEdges i l=true->∀e,e∈l->Region.binds .any e=true->e.on<i
 |[],_,e,he,_=>by simp at he
 |x::l,h,e,he,hb=>by
  simp only[topoEdges,Ai]at h;rcases Ar.1 he with rfl | he
  ·have:=h.1;rw[hb]at this;simp only[Ao,BT]at this;exact BB this
  ·exact qhy h.2 e he hb
theorem qhz{nt:Nat}{pins:List Nat}:∀ {l:List Oper} {i:Nat},opsOk nt pins i l=true->∀(j:Nat) (o:Oper),l[j]?=some o->opOk nt pins o=true/\topoEdges (i+j) o.after.toList=true
 |[],i,_,j,o,h=>by simp at h
 |x::l,i,h,j,o,hj=>by
  simp only[opsOk,Ai]at h;cases j with
  |zero=>simp at hj;subst hj;exact⟨h.1.1,h.1.2⟩
  |succ j =>
   have:=qhz h.2 j o (by simpa using hj);rwa[show i+1+j=i+(j+1) by omega]at this
def memD(tr:Tr)(M:Mem)(D:Nat->Bool):Nat->Mem
 |0=>M
 |i+1=>if D i=true then((tr[i]?).map (·.1)).getD []++memD tr M D i else memD tr M D i
theorem qcd{k:Key}{us:List (Key×Ent)}(h:k ∉ q2a us):Mem.get k us=none:=q5t λe he=>h (Bp.2 ⟨(k,e),he,rfl⟩)
theorem qi0{k:Key}:∀ {us:List (Key×Ent)},k∈q2a us->∃e,Mem.get k us=some e
 |[],h=>by simp[q2a]at h
 |(k',e)::us,h=>by
  rw[Mem.qj];split
  ·exact⟨e,rfl⟩
  ·rename_i hk
   exact qi0 (by
    simp only[q2a,AS,Ar]at h
    exact h.resolve_left hk)
section
variable {E:Env} {call:FuncId->List FV->Res} {X:Cx} {M:Mem} {a:Act} {w:World} {γ:Nat->Gh} {S:Nat->Prop} {us:List (Key×Ent)} {o:Oper}
def FpTr(ops:Array Oper)(tr:Tr):Prop:=∀(i j:Nat) (u v:List (Key×Ent)×List Key),i<j->tr[i]?=some u->tr[j]?=some v->((Region.before ops).getD j 0).testBit i=true\/Apart (v.2,q2a v.1) (u.2,q2a u.1)
def Closed(ops:Array Oper)(D:Nat->Bool):Prop:=∀j,j<ops.size->D j=true->∀i,((Region.before ops).getD j 0).testBit i=true->D i=true
theorem qmz{ops:Array Oper}{tr:Tr}{D:Nat->Bool}(hl:tr.length=ops.size)(hfp:FpTr ops tr)(hc:Closed ops D){i:Nat}{u:List (Key×Ent)×List Key}(hu:tr[i]?=some u)(hD:D i=false)
  (hb:∀m,((Region.before ops).getD i 0).testBit m=true->D m=true):∀k,k∈u.2->Mem.get k (memD tr M D ops.size)=Mem.get k (seqM tr M i):=λk hk=>by
 have hil:i<ops.size:=by rw[<- hl];exact(Am.1 hu).1
 have s1:∀m,m<=i->Mem.get k (memD tr M D m)=Mem.get k (seqM tr M m):=λm=>by
  induction m with
  |zero=>intro _;rfl
  |succ m ih =>
   intro hm;have hv:tr[m]?=some tr[m]:=Ag (by omega);rw[memD,seqM,hv];simp only[AE,Bg];split
   ·rw[Mem.get_append,Mem.get_append,ih (by omega)]
   ·rename_i hDm;rcases hfp m i _ u (by omega) hv hu with q | q
    ·exact absurd (hb m q) hDm
    ·rw[Mem.get_append,qcd (λhk'=>q.rw k hk' hk),CH];exact ih (by omega)
 have s2:∀m,m<=ops.size->i<=m->Mem.get k (memD tr M D m)=Mem.get k (memD tr M D i):=λm=>by
  induction m with
  |zero =>
       intro _ h;have:i=0:=by omega
       subst this;rfl
  |succ m ih =>
   intro hm him;by_cases he:i=m+1
   ·subst he;rfl
   ·have hv:tr[m]?=some tr[m]:=Ag (by omega);rw[memD];split
    ·rename_i hDm;have hne:i≠m:=λe=>by subst e;rw[hD]at hDm;cases hDm
     rcases hfp i m u _ (by omega) hu hv with q | q
     ·have:=hc m (by omega) hDm i q;rw[hD]at this;cases this
     ·rw[hv];simp only[AE,Bg];rw[Mem.get_append,qcd (λhk'=>q.wr k hk' hk),CH];exact ih (by omega) (by omega)
    ·exact ih (by omega) (by omega)
 rw[s2 ops.size (Ak _) (by omega),s1 i (Ak _)]
theorem memD_add{ops:Array Oper}{tr:Tr}{D D':Nat->Bool}(hl:tr.length=ops.size)(hfp:FpTr ops tr)(hc:Closed ops D){i:Nat}{u:List (Key×Ent)×List Key}(hu:tr[i]?=some u)(hD:D i=false)
  (hD':∀j,j<ops.size->D' j=(if j=i then true else D j)):MEq (u.1++memD tr M D ops.size) (memD tr M D' ops.size):=by
 have hil:i<ops.size:=by rw[<- hl];exact(Am.1 hu).1
 have s1:∀m,m<=i->memD tr M D' m=memD tr M D m:=λm=>by
  induction m with
  |zero=>intro _;rfl
  |succ m ih =>
   intro hm;have hne:¬ m=i:=by omega
   have hq:D' m=D m:=by rw[hD' m (by omega),if_neg hne]
   rw[memD,memD,ih (by omega),hq]
 have s2:∀m,m<=ops.size->i<m->MEq (u.1++memD tr M D m) (memD tr M D' m):=λm=>by
  induction m with
  |zero=>intro _ h;omega
  |succ m ih =>
   intro hm him;by_cases he:i=m
   ·subst he;rw[memD,memD,hD' i hil,if_pos rfl,if_pos rfl,if_neg (by rw[hD];simp),s1 i (Ak _),hu];exact λ_=>rfl
   ·have hv:tr[m]?=some tr[m]:=Ag (by omega);rw[memD,memD,hD' m (by omega),if_neg (BR he)];split
    ·rename_i hDm;have ih:=ih (by omega) (by omega);rcases hfp i m u _ (by omega) hu hv with q | q
     ·have:=hc m (by omega) hDm i q;rw[hD]at this;cases this
     ·rw[hv];simp only[AE,Bg];intro k;have ihk:=ih k;rw[Mem.get_append]at ihk;rw[Mem.get_append,Mem.get_append,Mem.get_append,ihk];by_cases hk:k∈q2a tr[m].1
      ·obtain⟨e,hke⟩:=qi0 hk;rw[qcd (us:=u.1) (q.ww k hk),hke];simp
      ·rw[qcd hk];simp
    ·exact ih (by omega) (by omega)
 exact s2 ops.size (Ak _) hil
theorem filter_le{p p':Nat->Bool}(hp:∀j,p' j=true->p j=true):∀(l:List Nat),(l.filter p').length<=(l.filter p).length
 |[]=>by simp
 |x::l=>by
  have ih:=filter_le hp l;simp only[List.filter_cons];cases h':p' x with
  |true=>rw[hp x h'];simp;exact ih
  |false=>cases h:p x <;> simp <;> omega
theorem filter_lt{p p':Nat->Bool}(hp:∀j,p' j=true->p j=true){i:Nat}(h:p i=true)(h':p' i=false):∀ {l:List Nat},i∈l->(l.filter p').length<(l.filter p).length
 |[],hm=>by simp at hm
 |x::l,hm=>by
  simp only[List.filter_cons];rcases Ar.1 hm with rfl | hm
  ·rw[h,h'];have:=filter_le hp l;simp;omega
  ·have ih:=filter_lt hp h h' hm;cases q':p' x with
   |true=>rw[hp x q'];simp;omega
   |false=>cases q:p x <;> simp <;> omega
theorem any_sim{ops:Array Oper}{nt:Nat}{pins:List Nat}(hE:q14 E)(hC:q52 E call)(hnt:nt<=X.nt)(hpin:∀d,d ∉ pins->X.pin d=none)(hops:∀(i:Nat) (o:Oper),ops[i]?=some o->opOk nt pins o=true)(htopo:Topo ops){tr:Tr}(hlen:tr.length=ops.size)
  (htr:∀(i:Nat) (o:Oper) (u:List (Key×Ent)×List Key),ops[i]?=some o->tr[i]?=some u->StepOk E call ops o (seqM tr M i) u.1 u.2) (hfp:FpTr ops tr) {Q:Exit->Act->World->Prop}
  (hQ:∀a' w' γ' S',Rel X (seqM tr M ops.size) a' w' γ' S'->Q .normal a' w') :
  ∀(fuel:Nat) (listed:Array Bool) (a:Act) (w:World) (γ:Nat->Gh) (S:Nat->Prop),listed.size=ops.size->Closed ops (λi=>listed.getD i false)->((List.range ops.size).filter λi=>!listed.getD i true).length<=fuel ->
   Rel X (memD tr M (λi=>listed.getD i false) ops.size) a w γ S->wpAny E.P .any ops Q fuel listed a w:=by
 have done:∀(listed:Array Bool) (a:Act) (w:World) (γ:Nat->Gh) (S:Nat->Prop),(∀i,i<ops.size->listed.getD i false=true)->Rel X (memD tr M (λi=>listed.getD i false) ops.size) a w γ S->Q .normal a w:=λlisted a w γ S hall h=>by
  have:∀m,m<=ops.size->memD tr M (λi=>listed.getD i false) m=seqM tr M m:=λm=>by
   induction m with
   |zero=>intro _;rfl
   |succ m ih=>intro hm;rw[memD,seqM,ih (by omega),if_pos (hall m (by omega))]
  rw[this _ (Ak _)]at h;exact hQ a w γ S h
 have get:∀(listed:Array Bool) (i:Nat),listed.size=ops.size->i<ops.size->listed.getD i true=listed.getD i false:=λlisted i hs hi=>by
  rw[Az,Az,Bo (by omega)];rfl
 have stuck:∀(listed:Array Bool),listed.size=ops.size->Region.ready .any ops listed=[]->∀i,i<ops.size->listed.getD i false=true:=λlisted hs hr i=>by
  induction i using Nat.strongRecOn with
  |_ i ih =>
   intro hi;apply BU;intro hn;have hno:listed.getD i false=false:=by simpa using hn
   have:i∈Region.ready .any ops listed:=by
    unfold Region.ready;rw[EF];refine⟨Cs.2 hi,?_⟩;rw[get listed i hs hi,hno];simp only[AX,AA];rw[Bo hi,AE,Bg,Ft];intro e he;cases hb:Region.binds .any e with
    |false=>rfl
    |true =>
     have hlt:=htopo i _ (Bo hi) e (by simpa using he) hb;simp only[Ao,BT];exact ih e.on hlt (by omega)
   rw[hr]at this;simp at this
 intro fuel
 induction fuel with
 |zero =>
  intro listed a w γ S hs hc hf h;have hall:∀i,i<ops.size->listed.getD i false=true:=λi hi=>by
   apply BU;intro hn;have hno:listed.getD i false=false:=by simpa using hn
   have:i∈(List.range ops.size).filter λi=>!listed.getD i true:=EF.2 ⟨Cs.2 hi,by rw[get listed i hs hi,hno];rfl⟩;rw[De.1 (Nat.le_zero.1 hf)]at this;simp at this
  refine⟨?_,done listed a w γ S hall h⟩;apply List.filter_eq_nil_iff.2;intro i hi;have hi':=Cs.1 hi;rw[get listed i hs hi',hall i hi'];simp
 |succ fuel ih =>
  intro listed a w γ S hs hc hf h;refine⟨λhr=>done listed a w γ S (stuck listed hs hr) h,λi hi=>?_⟩;unfold Region.ready at hi;rw[EF]at hi;obtain⟨hi1,hi2⟩:=hi;have hil:=Cs.1 hi1;have ho:ops[i]?=some ops[i]:=Bo hil;rw[ho,AE,Bg,Ai,get listed i hs hil,Ft]at hi2;obtain⟨hD,haft⟩:=hi2;have hD':listed.getD i false=false:=by simpa using hD
  have hb:∀m,((Region.before ops).getD i 0).testBit m=true->listed.getD m false=true:=λm hm=>by
   obtain⟨e,e1,e2,e3⟩:=qmy ho hm;have:=haft e (by simpa using e1);rw[e2]at this;simp only[Ao,BT]at this;rcases e3 with rfl | e3
   ·exact this
   ·have hlt:=htopo i _ ho e e1 e2;exact hc e.on (by omega) this m e3
  have hu:tr[i]?=some tr[i]:=Ag (by omega);have hstep:=(htr i _ _ ho hu).near (M':=memD tr M (λi=>listed.getD i false) ops.size) (λk hk=>qmz hlen hfp hc hu hD' hb k hk);have hset:∀j,j<ops.size->(listed.setIfInBounds i true).getD j false=(if j=i then true else listed.getD j false):=λj hj=>by
   rw[Az,Az];by_cases hji:j=i
   ·subst hji;rw[if_pos rfl,DQ (by omega)];rfl
   ·rw[if_neg hji,Dx (BR hji)]
  refine qi1 hE hC h hnt hpin (hops i _ ho) ho hstep λa' w' γ' S' hR=>?_;have hs':(listed.setIfInBounds i true).size=ops.size:=by simpa using hs
  refine ih _ a' w' γ' S' hs' (λj hj hDj m hm=>?_) ?_ (hR.congr λk=>(memD_add hlen hfp hc hu hD' hset k))
  ·have hm':listed.getD m false=true:=by
    simp only at hDj;rw[hset j hj]at hDj;split at hDj
    ·rename_i e;subst e;exact hb m hm
    ·exact hc j hj hDj m hm
   simp only;rw[Az];by_cases hmi:m=i
   ·subst hmi;rw[DQ (by omega)];rfl
   ·rw[Dx (BR hmi),<- Az];exact hm'
  ·have hlt:=filter_lt (p:=λj=>!listed.getD j true) (p':=λj=>!(listed.setIfInBounds i true).getD j true) (i:=i) (λj hj=>by
    have:(listed.setIfInBounds i true).getD j true=false:=by simpa using hj
    rw[Az]at this;by_cases hji:j=i
    ·subst hji;rw[DQ (by omega)]at this;cases this
    ·rw[Dx (BR hji),<- Az]at this
     rw[this];rfl) (by rw[get listed i hs hil,hD'];rfl) (by rw[get _ i hs' hil,hset i hil,if_pos rfl];rfl) (Cs.2 hil)
   omega
end
end
section
def toExit:X->Exit
 |.normal=>.normal
 |.exit id=>.exit id
 |.ret=>.ret
def KOk(C:Cx)(R:List FV)(K:Kont)(Q:Exit->Act->World->Prop):Prop:=∀x M a w γ S,Rel C M a w γ S->K x M=some R->Q (toExit x) a w
section
variable {E:Env} {call:FuncId->List FV->Res} {C:Cx} {M:Mem} {a:Act} {w:World} {γ:Nat->Gh} {S:Nat->Prop} {us:List (Key×Ent)} {R:List FV} {an:Ann}
theorem qjf(h:Rel C M a w γ S):∀ {ts:List Nat} {f:List SV->RT},Gets (slotsOf ts f) M us->∃svs,All2 (SRep w S γ (hdOf M)) svs (ts.map λt=>a.tmps.getD t undef)/\Gets (f svs) M us
 |[],f,hg=>⟨[],.nil,hg⟩
 |t::ts,f,hg=>by
  unfold slotsOf at hg;obtain⟨e,he,hg⟩:=q6i hg;split at hg
  ·rename_i v;obtain⟨svs,h1,h2⟩:=qjf h hg;exact⟨v::svs,.cons (h.slot t v he) h1,h2⟩
  ·exact(qg hg).elim
theorem qjg{t:RT}{K:List FV->Res}(h:t.told M K=some R):∃k L,Gets t M [(k,.sv (.fv (.agg L)))]/\K L=some R:=by
 obtain⟨us,l,h1,h2⟩:=run_get h;split at h2
 ·rename_i k L;exact⟨k,L,⟨l,h1⟩,h2⟩
 ·simp at h2
theorem rel_nil(h:Rel C M a w γ S):Rel C [] a w γ S :=
 { keep:=h.keep,head:=λid e he=>by simp[hdOf,Mem.get]at he,own:=λid e he=>by simp[hdOf,Mem.get]at he,inj:=λid e id' e' he=>by simp[hdOf,Mem.get]at he,nt:=h.nt,q2o:=h.q2o,pin:=h.pin,
   slot:=λt s hs=>by simp[Mem.get]at hs }
theorem qfs(h:Rel C M a w γ S){id:Nat}{K:Mem->Res}(hp:prune an id M K=some R):∃M' γ' S',Rel C M' a w γ' S'/\K M'=some R:=by
 unfold prune at hp;split at hp
 ·exact⟨M,γ,S,h,hp⟩
 ·rename_i ts T hT;cases hfl:flatOk 0 T with
  |false=>rw[hfl]at hp;simp at hp
  |true =>
   rw[hfl,Ac]at hp;obtain⟨k,L,hg,hK⟩:=qjg hp;obtain⟨svs,hs,hg1⟩:=qjf h hg;obtain⟨L1,ids,fz,G,hG,hfz,_,hap,hids,_,hg2,hTr⟩:=gets_ext h hs (acc:=[]) (accG:=[]) ⟨λj id h=>by simp at h,λi j id h=>by simp at h⟩ .nil (qv.nil M) hg1;have:=q2s hg2;simp only[AY,Bw,Ent.sv.injEq,SV.fv.injEq,FV.agg.injEq,DY]at this;obtain⟨_,rfl⟩:=this;obtain⟨S1,s1,_,hR⟩:=h.q8h hfz;have hT1:=hTr S1 s1 hR;cases hb:bld (namesFrom 1000 (owns T)) 0 T L with
   |none=>rw[memOf,hb]at hK;exact⟨[],γ,S,rel_nil h,hK⟩
   |some p =>
    obtain⟨us,vs,r⟩:=p;rw[memOf,hb]at hK;have hsl:All2 (λt v=>a.tmps.getD t undef=v) ts (ts.map λt=>a.tmps.getD t undef):=by
     clear hK hb hT1 hR hTr hg hg1 hs hT hp
     induction ts with
     |nil=>exact .nil
     |cons t ts ih=>exact .cons rfl ih
    obtain⟨_,hR',_⟩:=qiu hR.keep h.nt h.q2o h.pin hT1 hfl hb (qir _ _) (.of hR hG hids hap) hsl;exact⟨_,_,_,hR',hK⟩
theorem evR_ok(hE:q14 E)(hC:q52 E call){nt:Nat}{pins:List Nat}(hnt:nt<=C.nt)(hpin:∀d,d ∉ pins->C.pin d=none){id:Nat}{ops:Array Oper}{draw:Bool}{K:Kont}{Q:Exit->Act->World->Prop}
  (hops:opsOk nt pins 0 ops.toList=true) (h:Rel C M a w γ S) (hev:evR E call ops draw K M=some R) (hK:KOk C R K Q):(Code.region id ops draw).wp E.P Q a w:=by
 unfold evR at hev;obtain⟨tr,M',t1,t2,t3,t4⟩:=qjh hev;simp only[AN]at t4;have hlen:tr.length=ops.size:=by simpa using t1
 have hspec:=qhz hops;have ho:∀(i:Nat) (o:Oper),ops[i]?=some o->opOk nt pins o=true:=λi o hi=>(hspec i o (by rw[BA];exact hi)).1;have htr:∀(i:Nat) (o:Oper) (u:List (Key×Ent)×List Key),ops[i]?=some o->tr[i]?=some u->StepOk E call ops o (seqM tr M i) u.1 u.2:=λi o u h1 h2=>t2 i o u (by rw[BA];exact h1) h2;cases hc:(!draw||fpOk (Region.before ops) (ops.size-1) (tr.map λu=>(u.2,q2a u.1)).reverse)with
 |false=>rw[hc]at t4;simp at t4
 |true =>
  rw[hc,Ac]at t4;have t3':MEq (seqM tr M ops.size) M':=by simpa using t3
  have hQ:∀a' w' γ' S',Rel C (seqM tr M ops.size) a' w' γ' S'->Q .normal a' w':=λa' w' γ' S' hR=>hK .normal M' a' w' γ' S' (hR.congr t3') t4;cases draw with
  |false =>
   refine wp_region ?_;rw[List.range_eq_range'];exact qji hE hC hnt hpin ho hlen htr hQ ops.size 0 a w γ S (by omega) h
  |true =>
   simp only[Ao,BT]at hc;refine wp_region_any hE.mixed ?_;have htopo:Topo ops:=λi o hi=>by
    have:=(hspec i o (by rw[BA];exact hi)).2;rw[AG]at this;exact qhy this
   have h0:∀i,(Array.replicate ops.size false).getD i false=false:=λi=>by
    rw[Az];by_cases hi:i<ops.size
    ·rw[FA,if_pos hi];rfl
    ·rw[FA,if_neg hi];rfl
   refine any_sim hE hC hnt hpin ho htopo hlen htr (λi j u v=>fpOk_tr hlen hc i j u v) hQ ops.size _ a _ γ S (by simp) (λj _ hj=>by simp only[h0]at hj;cases hj) ?_ ?_
   ·exact Bb (FB _ _) (by simp)
   ·have:∀m,memD tr M (λi=>(Array.replicate ops.size false).getD i false) m=M:=λm=>by
     induction m with
     |zero=>rfl
     |succ m ih=>rw[memD,if_neg (by rw[h0];simp),ih]
    rw[this];exact h.drew (w.drawn+1)
theorem kSeq_ok{K:Kont}{Q:Exit->Act->World->Prop}{g:Mem->Res}{next:Act->World->Prop}(hg:∀M a w γ S,Rel C M a w γ S->g M=some R->next a w)(hK:KOk C R K Q):KOk C R (kSeq g K) (Exit.then next Q):=λx M a w γ S h hk=>by
 cases x with
 |normal=>exact hg M a w γ S h hk
 |exit id=>exact hK (.exit id) M a w γ S h hk
 |ret=>exact hK .ret M a w γ S h hk
theorem evC_ok(hE:q14 E)(hC:q52 E call){nt:Nat}{pins:List Nat}(hnt:nt<=C.nt)(hpin:∀d,d ∉ pins->C.pin d=none)(n:Nat) :
  ∀(c:Code) {M:Mem} {a:Act} {w:World} {γ:Nat->Gh} {S:Nat->Prop} {K:Kont} {Q:Exit->Act->World->Prop},codeOk nt pins c=true->Rel C M a w γ S->evC E call an n c K M=some R->KOk C R K Q->c.wp E.P Q a w:=by
 intro c
 induction c with
 |skip=>intro M a w γ S K Q _ h hev hK;exact wp_skip (hK .normal M a w γ S h hev)
 |label l=>intro M a w γ S K Q _ h hev hK;exact wp_label (hK .normal M a w γ S h hev)
 |ret=>intro M a w γ S K Q _ h hev hK;exact wp_ret (hK .ret M a w γ S h hev)
 |exit id=>intro M a w γ S K Q _ h hev hK;exact wp_exit (hK (.exit id) M a w γ S h hev)
 |region id ops draw =>
  intro M a w γ S K Q hc h hev hK;obtain⟨M',γ',S',h',hev'⟩:=qfs h hev;exact evR_ok hE hC hnt hpin hc h' hev' hK
 |seq x y ihx ihy =>
  intro M a w γ S K Q hc h hev hK;simp only[codeOk,Ai]at hc;refine wp_seq (ihx hc.1 h hev (kSeq_ok (λM a w γ S h hev=>ihy hc.2 h hev hK) hK))
 |cond x p q ihp ihq =>
  intro M a w γ S K Q hc h hev hK;simp only[codeOk,Ai]at hc;simp only[evC]at hev;split at hev
  ·rename_i t;split at hev
   ·rename_i b hb;have hv:a.eval (.tmp t)=.bool b:=(h.slot t _ hb).q51;cases b with
    |true=>exact wp_cond_true hv (ihp hc.1 h hev hK)
    |false=>exact wp_cond_false hv (ihq hc.2 h hev hK)
   ·simp at hev
  ·exact wp_cond_true rfl (ihp hc.1 h hev hK)
  ·exact wp_cond_false rfl (ihq hc.2 h hev hK)
  ·simp at hev
 |block id x ih =>
  intro M a w γ S K Q hc h hev hK;refine wp_block (ih hc h hev λx M a w γ S h hk=>?_);cases x with
  |normal=>exact hK .normal M a w γ S h hk
  |ret=>exact hK .ret M a w γ S h hk
  |exit j =>
   simp only[kBlock]at hk;simp only[toExit,Exit.inBlock];cases hb:Nat.beq j id with
   |true =>
    rw[hb]at hk;rw[if_pos (Aw hb)];exact hK .normal M a w γ S h hk
   |false =>
    rw[hb]at hk;rw[if_neg (Nat.ne_of_beq_eq_false hb)];exact hK (.exit j) M a w γ S h hk
 |scope x ih =>
  intro M a w γ S K Q hc h hev hK;refine wp_scope_straight (ih hc h hev λx M a w γ S h hk=>?_);cases x with
  |normal=>exact hK .normal M a w γ S h hk
  |ret=>exact hK .ret M a w γ S h hk
  |exit j=>exact hK (.exit j) M a w γ S h hk
 |loop x ih =>
  intro M a w γ S K Q hc h hev hK;simp only[evC]at hev;obtain⟨M',γ',S',h',hev'⟩:=qfs h hev;have key:∀(m:Nat) {M:Mem} {a:Act} {w:World} {γ:Nat->Gh} {S:Nat->Prop},Rel C M a w γ S->evLoop (q4a x) (λK' M'=>evC E call an n x K' M') K (prune an (q4a x)) m M=some R->Code.rounds E.P x Q m a w:=by
   intro m
   induction m with
   |zero=>intro M a w γ S h hev;simp[evLoop]at hev
   |succ m ihm =>
    intro M a w γ S h hev;simp only[evLoop]at hev;rw[rounds_succ];refine ih hc h hev (kSeq_ok (λM a w γ S h hev=>?_) hK);obtain⟨M',γ',S',h',hev'⟩:=qfs h hev;exact ihm h' hev'
  exact wp_loop_rounds n (key n h' hev')
 |_=>intro M a w γ S K Q _ h hev hK;simp[evC]at hev
end
end
section
def SV.isDead:SV->Bool
 |.dead=>true
 |_=>false
theorem qkq:∀ {ps:List SV} {j k:Nat} {s:SV},ps[k]?=some s->s.isDead=false->j+k∈q7x j ps
 |[],j,k,s,h,_=>by simp at h
 |p::ps,j,k,s,h,hd=>by
  cases k with
  |zero=>simp at h;subst h;cases p <;> first | (simp[SV.isDead]at hd;done) | simp[q7x]
  |succ k =>
   have:=qkq (j:=j+1) (by simpa using h) hd;rw[show j+1+k=j+(k+1) by omega]at this;cases p <;> simp only[q7x] <;> first | exact this | exact AC _ this
def ResRd(P:Program)(w:World)(tmps:Array Value)(r:ResultVar)(v:Value):Prop :=
 (match r with
   |.tmp t=>pure (tmps.getD t undef)
   |.cell a t=>do loadVar t (<- asAddr (tmps.getD a undef)):Sem Value).run P w=.ok v w
theorem qkr{P:Program}{w:World}(tmps:Array Value):∀(l:List ResultVar) (Vs:List Value),All2 (ResRd P w tmps) l Vs ->
  (l.mapM (λ(r:ResultVar)=>(match r with
   |.tmp t=>pure (tmps.getD t undef)
   |.cell a t=>do loadVar t (<- asAddr (tmps.getD a undef)):Sem Value))).run P w=.ok Vs w
 |_,_,.nil=>by simp
 |_,_,.cons (xs:=l) (ys:=Vs) h t=>by
  have ih:=qkr (P:=P) (w:=w) tmps l Vs t;unfold ResRd at h;rw[Ep];simp only[Sem.run_bind,Sem.run_pure,Result.andThen_ok,ih,h]
section
variable {E:Env} {call:FuncId->List FV->Res} {C:Cx} {M:Mem} {a:Act} {w:World} {γ:Nat->Gh} {S:Nat->Prop} {us:List (Key×Ent)} {R:List FV} {an:Ann}
theorem qks(h:Rel C M a w γ S):∀ {ps:List SV} {Vs:List Value} {j:Nat} {f:List SV->RT},ps.length=Vs.length->(∀(k:Nat) (s:SV) (v:Value),ps[k]?=some s->s.isDead=false->Vs[k]?=some v->a.tmps.getD (j+k) undef=v)->Gets (rdPins j ps f) M us ->
  ∃qs,All2 (SRep w S γ (hdOf M)) qs Vs/\Gets (f qs) M us
 |[],[],j,f,_,_,hg=>⟨[],.nil,hg⟩
 |[],_::_,_,_,hl,_,_=>by simp at hl
 |_::_,[],_,_,hl,_,_=>by simp at hl
 |p::ps,v::Vs,j,f,hl,hp,hg=>by
  have rest:∀ {f:List SV->RT},Gets (rdPins (j+1) ps f) M us->∃qs,All2 (SRep w S γ (hdOf M)) qs Vs/\Gets (f qs) M us:=λhg =>
   qks h (by simpa using hl) (λk s v h1 h2 h3=>by
    rw[show j+1+k=j+(k+1) by omega]
    exact hp (k+1) s v (by simpa using h1) h2 (by simpa using h3)) hg
  unfold rdPins at hg;split at hg
  ·obtain⟨qs,h1,h2⟩:=rest hg;exact⟨.dead::qs,.cons .dead h1,h2⟩
  ·rename_i hnd;obtain⟨e,he,hg⟩:=q6i hg;split at hg
   ·rename_i s;obtain⟨qs,h1,h2⟩:=rest hg;have hd:p.isDead=false:=by cases p <;> first | rfl | exact absurd rfl (hnd)
    have:=hp 0 p v rfl hd rfl;rw[Ay]at this;exact⟨s::qs,.cons (by rw[<- this];exact h.slot j s he) h1,h2⟩
   ·exact(qg hg).elim
theorem qgs(hE:q14 E)(h:Rel C M a w γ S):∀ {l:List ResultVar} {f:List SV->RT},Gets (resOf E l f) M us ->
  ∃ss Vs,All2 (SRep w S γ (hdOf M)) ss Vs/\All2 (ResRd E.P w a.tmps) l Vs/\Gets (f ss) M us
 |[],f,hg=>⟨[],[],.nil,.nil,hg⟩
 |.tmp t::l,f,hg=>by
  unfold resOf at hg;obtain⟨e,he,hg⟩:=q6i hg;split at hg
  ·rename_i s;obtain⟨ss,Vs,h1,h2,h3⟩:=qgs hE h hg;exact⟨s::ss,a.tmps.getD t undef::Vs,.cons (h.slot t s he) h1,.cons (by simp[ResRd]) h2,h3⟩
  ·exact(qg hg).elim
 |.cell c t::l,f,hg=>by
  unfold resOf at hg;obtain⟨e,he,hg⟩:=q6i hg;split at hg
  ·rename_i s;obtain⟨ti,inf,d,z,hT,hg1⟩:=q3l hE hg;obtain⟨b,p,s',v,e1,e2,e3,hg2⟩:=qkt hT h (h.slot c s he) hg1;obtain⟨ss,Vs,h1,h2,h3⟩:=qgs hE h hg2;refine⟨s'::ss,v::Vs,.cons e3 h1,.cons ?_ h2,h3⟩;simp[ResRd,e1,asAddr,e2]
  ·exact(qg hg).elim
theorem qsj{P:Program}{w:World}{fn:Func}{tmps:Array Value}{Vs:List Value}(h:All2 (ResRd P w tmps) fn.results.toList Vs):(results fn tmps).run P w=.ok (resV Vs) w:=by
 have:=qkr (P:=P) (w:=w) tmps _ _ h;unfold results;rw[Array.mapM_eq_mapM_toList];simp only[Sem.run_bind,Sem.run_map,Sem.run_pure];refine(congrArg (λ(r:Result (List Value))=>(r.andThen λa w'=>Result.ok a.toArray w').andThen λa w'=>Result.ok (if h:a.size=1 then a[0]else Value.tuple a) w') this).trans ?_;unfold resV
 match Vs with
 |[]=>rfl
 |[v]=>rfl
 |v::u::r=>rfl
theorem keep_cx{X Y:Cx}(h0:X.w0=Y.w0)(h1:X.S0=Y.S0)(h2:X.W0=Y.W0)(h:Keep X w S):Keep Y w S:=by
 obtain⟨a,b,c,d,e,f,g,i,t1,t2⟩:=h;rw[h0]at a b c d e i t1;rw[h1]at g i t1 t2;rw[h2]at b i t2;exact⟨a,b,c,d,e,f,g,i,t1,t2⟩
theorem gok_cx{X Y:Cx}(h0:X.w0=Y.w0)(h2:X.W0=Y.W0){G:GA}(h:GOk X w S G):GOk Y w S G:=by
 obtain⟨a,b⟩:=h;rw[h0,h2]at a;exact⟨a,b⟩
theorem bld_len{nm:List Nat}{T:List Tok}{V:List Value}{L:List FV}{G:GA}{svs:List SV}{r:List FV}(hT:TRep w S T V L [] G)(hfl:flatOk 0 T=true)(hb:bld nm 0 T L=some (us,svs,r))(hn:NInj nm):svs.length=V.length:=by
 obtain⟨b1,b2⟩:=bld_keys hn hb;obtain⟨_,k2,_⟩:=q7f (M':=us) (γ':=ghAt nm G) hT hb b2 (qb3 hn) (λi g q k h=>by simp at h) hfl;exact k2.len
theorem evFb_ok(hE:q14 E)(hC:q52 E call){n:Nat}{f:FuncId}{i:FnI}{L L':List FV}(hi:E.fn f=some i)(hev:evFb E call n f L=some L'):Enters E.P (vb f)/\q2w E.P (vb f) i L L':=by
 unfold evFb at hev;rw[hi]at hev;split at hev
 ·rename_i i' fn hi' hfc;cases hi';obtain⟨hf,hname⟩:=hE.fc f fn hfc;split at hev
  ·rename_i c us svs hbody hbld;cases hck:(flatOk 0 i.tin&&codeOk fn.ntmps (q7x 0 (svs.map kept)) c)with
   |false=>rw[hck]at hev;simp at hev
   |true =>
    rw[hck,Ac]at hev;simp only[Ai]at hck;refine⟨⟨fn,hf,by rw[hbody];rfl,hname⟩,λw S V G hS htab hT hgo=>?_⟩;have hnm:=qir 1000 (owns i.tin);have hlen:svs.length=V.length:=bld_len hT hck.1 hbld hnm;refine calls_of_wp hf hbody ?_;generalize ha:({ tmps:=V.toArray++Array.replicate (fn.ntmps-V.toArray.size) undef,defers:=[] }:Act)=a0;have hsize:fn.ntmps<=a0.tmps.size:=by subst ha;simp;omega
    have hget:∀(t:Nat) (v:Value),V[t]?=some v->a0.tmps.getD t undef=v:=λt v hv=>by
     subst ha;have hlt:=(Am.1 hv).1;rw[Az,EV (by simpa using hlt),Ds,hv];rfl
    let pin:Nat->Option Value:=λt=>if t∈q7x 0 (svs.map kept)then some (a0.tmps.getD t undef)else none
    let C:Cx:=⟨w,S,q27 G,a0.tmps.size,pin⟩
    have hkeep:Keep C w S:=⟨Ak _,λ_ _ _=>rfl,rfl,rfl,rfl,hS,λ_ h=>h,λ_ h=>.inl h,htab,λb ⟨i,g,sh,q1,q2,q3⟩=>by subst q3;exact(hgo.own i g sh q1 q2).2.1⟩;have hpinv:∀t v,C.pin t=some v->a0.tmps.getD t undef=v:=λt v h=>by
     simp only[C,pin]at h;split at h
     ·cases h;rfl
     ·cases h
    have hsl:All2 (λt v=>a0.tmps.getD t undef=v) (namesFrom 0 svs.length) V:=.of (by
      have:∀(n b:Nat),(namesFrom b n).length=n:=λn=>by
       induction n with
       |zero=>intro b;rfl
       |succ n ih=>intro b;simp[namesFrom,ih]
      rw[this,hlen]) λj t v h1 h2=>by
     have:=qa5 h1;rw[AG]at this;subst this;exact hget t v h2
    obtain⟨_,hR,_⟩:=qiu (X:=C) hkeep rfl (by subst ha;rfl) hpinv hT hck.1 hbld hnm (gok_cx (X:=⟨w,S,q27 G,0,λ_=>none⟩) (Y:=C) rfl rfl hgo) hsl;refine evC_ok hE hC (nt:=fn.ntmps) (pins:=q7x 0 (svs.map kept)) hsize (λd hd=>by simp only[C,pin];rw[if_neg hd]) n c hck.2 hR hev ?_;intro x M a w' γ S' h hk;have fin:(rdPins 0 (svs.map kept) λqs=>resOf E fn.results.toList λrs=>ext i.tout (qs++rs) [] [] λL _ _=>tell L).told M some=some L' ->
      a.defers=[]/\∃v,(results fn a.tmps).run E.P w'=.ok v w'/\∃S'' fin' Rv,Ending.returned v=.returned (resV Rv)/\TRep w' S'' i.tout (V++Rv) L' [] fin'/\Keep ⟨w,S,q27 G,0,λ_=>none⟩ w' S''/\GOk ⟨w,S,q27 G,0,λ_=>none⟩ w' S'' fin':=by
     intro hk;obtain⟨k,L1,hg,hL⟩:=qjg hk;cases hL
     obtain⟨qs,hq,hg1⟩:=qks h (Vs:=V) (by simpa using hlen) (λk s v h1 h2 h3=>by
      have hm:=qkq (j:=0) h1 h2;rw[h.pin (0+k) (a0.tmps.getD (0+k) undef) (by simp only[C,pin];rw[if_pos hm]),AG]
      exact hget k v h3) hg
     obtain⟨ss,Rv,hs,hres,hg2⟩:=qgs hE h hg1;obtain⟨L1,ids,fz,G',hG,hfz,_,hap,hids,_,hg3,hTr⟩:=gets_ext h (hq.app hs) (acc:=[]) (accG:=[]) ⟨λj id h=>by simp at h,λi j id h=>by simp at h⟩ .nil (qv.nil M) hg2;have:=q2s hg3;simp only[AY,Bw,Ent.sv.injEq,SV.fv.injEq,FV.agg.injEq,DY]at this;obtain⟨_,rfl⟩:=this;obtain⟨S1,s1,_,hR1⟩:=h.q8h hfz;have hT1:=hTr S1 s1 hR1;refine⟨h.q2o,_,qsj hres,S1,G',Rv,rfl,hT1,keep_cx (X:=C) (Y:=⟨w,S,q27 G,0,λ_=>none⟩) rfl rfl rfl hR1.keep,gok_cx (X:=C) (Y:=⟨w,S,q27 G,0,λ_=>none⟩) rfl rfl (.of hR1 hG hids hap)⟩
    cases x with
    |normal=>exact fin hk
    |ret=>exact fin hk
    |exit id=>simp[kRet]at hk
  ·simp at hev
 ·simp at hev
def q68(E:Env):Prop:=∀f g i L L',E.ext f=some g->E.fn f=some i->g L=some L'->Enters E.P (vb f)/\q2w E.P (vb f) i L L'
theorem evF_ok(hE:q14 E)(hX:q68 E):∀n,q52 E (evF E n)
 |0=>λf i L L' _ h=>by simp[evF]at h
 |n+1=>λf i L L' hi h=>by
  simp only[evF]at h;split at h
  ·rename_i g hg;exact hX f g i L L' hg hi h
  ·exact evFb_ok hE (evF_ok hE hX n) hi h
end
end
end Rf
section
section
/- Tables under numbers. -/
namespace Rf
open Go
theorem q90{α:Type}{t:Nat}{x:α}:∀ {l:List (Nat×α)},lookN t l=some x->(t,x)∈l
 |[],h=>by simp[lookN]at h
 |(k,y)::r,h=>by
  unfold lookN at h;cases hb:Nat.beq k t with
  |true =>
   rw[hb]at h;cases h;have:=Aw hb;subst this;exact AJ
  |false=>rw[hb]at h;exact AC _ (q90 h)
theorem qco{P:Program}{l:List (Nat×TyI)}(h:l.all (λp=>chkTy P p.1 p.2)=true){t:Nat}{i:TyI}(ht:lookN t l=some i):chkTy P t i=true :=
 Av.1 h _ (q90 ht)
def FcOk(P:Program):List (Nat×Func)->Prop
 |[]=>True
 |(f,fn)::r=>(P.funcs[vb f]?=some fn/\(fn.name == "runtime.NumGoroutine")=false)/\FcOk P r
theorem ql4{P:Program}:∀ {l:List (Nat×Func)},FcOk P l->∀p,p∈l->P.funcs[vb p.1]?=some p.2/\(p.2.name == "runtime.NumGoroutine")=false
 |[],_,p,hp=>by simp at hp
 |(f,fn)::r,h,p,hp=>by
  rcases Ar.1 hp with rfl | hp
  ·exact h.1
  ·exact ql4 h.2 p hp
theorem qcr{P:Program}{l:List (Nat×Func)}(h:FcOk P l){f:Nat}{fn:Func}(hf:lookN f l=some fn):P.funcs[vb f]?=some fn/\(fn.name == "runtime.NumGoroutine")=false :=
 ql4 h _ (q90 hf)
end Rf
end
section
namespace Rf
open Go
inductive Shp where
 |int (k:IntKind)
 |bool
 |str
 |lst (agg:Bool) (bytes:Nat) (es:List Shp)
def mkEl(agg:Bool)(cs:List FV):FV:=match agg,cs with
 |false,[c]=>c
 |_,cs=>.agg cs
inductive Fits:Shp->FV->Prop
 |int {k:IntKind} {n:Int} (h1:k.min<=n) (h2:n<=k.max):Fits (.int k) (.int k n)
 |bool (b:Bool):Fits .bool (.bool b)
 |str {s:ByteArray} (h:s.size<=140737488351232):Fits .str (.str s)
 |lst {agg:Bool} {bytes:Nat} {es:List Shp} {css:List (List FV)} (hl:css.length*bytes<=140737488351232) (hlen:∀cs,cs∈css->cs.length=es.length)
   (h:∀(i j:Nat) (cs:List FV) (s:Shp) (c:FV),css[i]?=some cs->es[j]?=some s->cs[j]?=some c->Fits s c):Fits (.lst agg bytes es) (.list es.length (css.map (mkEl agg)))
theorem Fits.flat{s:Shp}{x:FV}(h:Fits s x):x.flat=true:=by cases h <;> rfl
theorem qsw{agg:Bool}{cs:List FV}(h:agg=false->cs.length=1)(hf:∀c,c∈cs->c.flat=true):(mkEl agg cs).cells=cs:=by
 cases agg with
 |true=>cases cs <;> rfl
 |false =>
  match cs,h rfl with
  |[c],_ =>
   have:=hf c (by simp);cases c <;> first | rfl | simp[FV.flat]at this
def fldsOf(sh:TypeId->Option (Bool×List Shp)):List (Nat×Nat)->Nat->Option (List Shp)
 |[],_=>some []
 |(off,ft)::r,p=>match sh ft with
  |some (_,ss)=>bif Nat.beq off p then(match fldsOf sh r (p+ss.length)with | some rs=>some (ss++rs) | none=>none)else none
  |none=>none
def shpOf(ty:Nat->Option TyI):Nat->TypeId->Option (Bool×List Shp)
 |0,_=>none
 |n+1,t=>match ty t with
  |none=>none
  |some i=>match i.agg,i.ck with
   |true,_=>bif i.flds.isEmpty then none else match fldsOf (shpOf ty n) i.flds 0 with
    |some ss=>bif Nat.beq ss.length i.size then some (true,ss)else none
    |none=>none
   |false,[.int k]=>some (false,[.int k])
   |false,[.bool]=>some (false,[.bool])
   |false,[.str]=>some (false,[.str])
   |false,[.lst sz]=>match shpOf ty n i.elem,ty i.elem with
    |some (ag,es),some ei=>bif Nat.beq es.length sz&&Nat.ble 1 sz then some (false,[.lst ag ei.bytes es])else none
    |_,_=>none
   |false,_=>none
theorem q7y{α:Type}{b:Bool}{x:Option α}{y:α}(h:(bif b then x else none)=some y):b=true/\x=some y:=by
 cases b
 ·cases h
 ·exact⟨rfl,h⟩
theorem bif_some'{α:Type}{b:Bool}{x:Option α}{y:α}(h:(bif b then none else x)=some y):b=false/\x=some y:=by
 cases b
 ·exact⟨rfl,h⟩
 ·cases h
theorem shpOf_len{ty:Nat->Option TyI}{n:Nat}{t:TypeId}{ss:List Shp}(h:shpOf ty n t=some (false,ss)):ss.length=1:=by
 cases n with
 |zero=>simp[shpOf]at h
 |succ n =>
  unfold shpOf at h;split at h
  ·cases h
  ·split at h
   ·obtain⟨_,h⟩:=bif_some' h;split at h
    ·obtain⟨_,h⟩:=q7y h;cases h
    ·cases h
   ·cases h;rfl
   ·cases h;rfl
   ·cases h;rfl
   ·split at h
    ·obtain⟨_,h⟩:=q7y h;cases h;rfl
    ·cases h
   ·cases h
section
variable {E:Env} {H:Type} {enc:TypeId×Value->H} {W:World} {sp:Nat->Bool} {held:Bool}
def Old(W:World):Nat->Prop:=λb=>b<W.heap.size
theorem ql5{w:World}{a:Addr}{n:Nat}{cs:List Value}(h:w.cells? 0 a n=some cs):cs.length=n/\∀i,i<n->w.cell? (a.add i)=cs[i]?:=by
 unfold World.cells? at h;rw[if_pos (BL _)]at h;have key:∀(l:List Nat) (cs:List Value),l.mapM (λi=>w.cell? (a.add i))=some cs->cs.length=l.length/\∀(j i:Nat),l[j]?=some i->w.cell? (a.add i)=cs[j]?:=by
  intro l
  induction l with
  |nil=>intro cs h;simp at h;subst h;exact⟨rfl,λj i h=>by simp at h⟩
  |cons x l ih =>
   intro cs h;simp only[Ep,Option.bind_eq_bind,CD,Option.pure_def,AH]at h;obtain⟨v,h1,vs,h2,rfl⟩:=h;obtain⟨q1,q2⟩:=ih vs h2;refine⟨by simp[q1],λj i hj=>?_⟩;cases j with
   |zero=>simp at hj;subst hj;simpa using h1
   |succ j=>simpa using q2 j i (by simpa using hj)
 obtain⟨k1,k2⟩:=key _ _ h;exact⟨by simpa using k1,λi hi=>k2 i i (by simp[hi])⟩
theorem qe1{t:TypeId}{i:TyI}{inf:TypeInfo}{d:TypeDesc}{z:Value}(hT:TyOk E.P t i inf d z)(ht:E.ty t=some i){n:Nat}{ag:Bool}{ss:List Shp}(h:shpOf E.ty n t=some (ag,ss)):ss.length=i.size/\ag=i.agg/\E.P.cellsOf t=i.size/\E.P.bytesOf t=i.bytes:=by
 have h0:E.P.cellsOf t=i.size/\E.P.bytesOf t=i.bytes:=by
  simp[Program.cellsOf,Program.bytesOf,hT.info,hT.size,hT.bytes]
 refine⟨?_,?_,h0⟩
 ·cases n with
  |zero=>simp[shpOf]at h
  |succ n =>
   have hs:=h;unfold shpOf at h;rw[ht]at h;simp only at h;split at h
   ·obtain⟨_,h⟩:=bif_some' h;split at h
    ·obtain⟨h1,h⟩:=q7y h;cases h;exact Aw h1
    ·cases h
   all_goals first | (simp at h;done) | skip
   all_goals (rename_i ha hk;have:=hT.len;rw[hk]at this;simp at this)
   ·cases h;simpa using this
   ·cases h;simpa using this
   ·cases h;simpa using this
   ·split at h
    ·obtain⟨_,h⟩:=q7y h;cases h;simpa using this
    ·cases h
 ·cases n with
  |zero=>simp[shpOf]at h
  |succ n =>
   unfold shpOf at h;rw[ht]at h;simp only at h;split at h
   ·rename_i _ ha;obtain⟨_,h⟩:=bif_some' h;split at h
    ·obtain⟨h1,h⟩:=q7y h;cases h;exact ha.symm
    ·cases h
   ·rename_i ha _;cases h;exact ha.symm
   ·rename_i ha _;cases h;exact ha.symm
   ·rename_i ha _;cases h;exact ha.symm
   ·rename_i ha _;split at h
    ·obtain⟨_,h⟩:=q7y h;cases h;exact ha.symm
    ·cases h
   ·cases h
theorem qgy{n:Nat}{t:TypeId}{x:Bool×List Shp}(h:shpOf E.ty n t=some x):∃i,E.ty t=some i:=by
 cases n with
 |zero=>simp[shpOf]at h
 |succ n =>
  unfold shpOf at h;cases hi:E.ty t with
  |none=>rw[hi]at h;cases h
  |some i=>exact⟨i,rfl⟩
def ReadsAs(E:Env)(W:World)(enc:TypeId×Value->H)(sp:Nat->Bool)(held:Bool)(t:TypeId)(ss:List Shp):Prop :=
 ∀(fuel:Nat) (cs:List Value) (d:DataW H) (p:List MemPlace),DataW.trod enc E.P W 0 sp held fuel t cs=some (d,p)->(d.weights E.P t).all (·≤reachBytes)=true->∃fs,All2 Fits ss fs/\All2 (FRep W (Old W)) fs cs
theorem ql6{n fuel:Nat}(hE:q14 E)(ih:∀(t:TypeId) (ag:Bool) (ss:List Shp),shpOf E.ty n t=some (ag,ss)->ReadsAs E W enc sp held t ss){cs:List Value} :
  ∀ {fs:List Field} {q:Nat} {ss:List Shp} {xs:List (DataW H×List MemPlace)},fldsOf (shpOf E.ty n) (fs.map λf=>(f.offset,f.type)) q=some ss ->
   fs.mapM (λf=>DataW.trod enc E.P W 0 sp held fuel f.type ((cs.drop f.offset).take (E.P.cellsOf f.type)))=some xs->(DataW.weightsEach E.P (fs.map (·.type)) (xs.map (·.1))).all (·≤reachBytes)=true->q+ss.length=cs.length ->
   ∃fv,All2 Fits ss fv/\All2 (FRep W (Old W)) fv (cs.drop q)
 |[],q,ss,xs,h,hm,_,hq=>by
  simp only[BG,fldsOf,AH]at h;subst h;rw[Fg (by simp at hq;omega)];exact⟨[],.nil,.nil⟩
 |f::fs,q,ss,xs,h,hm,hw,hq=>by
  simp only[AS,fldsOf]at h;split at h
  ·rename_i ag ss1 hsh;obtain⟨hb,h⟩:=q7y h;have hoff:=Aw hb;split at h
   ·rename_i rs hr;cases h;simp only[Ep,Option.bind_eq_bind,CD,Option.pure_def,AH]at hm;obtain⟨x,hx,ys,hys,rfl⟩:=hm;obtain⟨i,hi⟩:=qgy hsh;obtain⟨inf,dd,z,hT⟩:=q8i (hE.ty _ _ hi);obtain⟨s1,_,s2,_⟩:=qe1 hT hi hsh;simp only[AS,DataW.weightsEach,Dv,Ai]at hw;obtain⟨fv1,a1,a2⟩:=ih _ _ _ hsh fuel _ x.1 x.2 hx hw.1;rw[AZ]at hq;obtain⟨fv2,b1,b2⟩:=ql6 hE ih hr hys hw.2 (by omega);refine⟨fv1++fv2,a1.app b1,?_⟩;have:cs.drop q=((cs.drop f.offset).take (E.P.cellsOf f.type))++cs.drop (q+ss1.length):=by
     rw[hoff,s2,<- s1,<- List.drop_drop];exact(BX _ _).symm
    rw[this];exact a2.app b2
   ·cases h
  ·cases h
theorem kind_wf{k:IntKind}{n:Int}(h:(Lit.int k n).wf=true):k.min<=n/\n<=k.max:=by
 simpa[Lit.wf]using h
theorem qsx{t:TypeId}{l:List (DataW H)}(h:(DataW.weightsAll E.P t l).all (·≤reachBytes)=true):∀d,d∈l->(d.weights E.P t).all (·≤reachBytes)=true:=by
 induction l with
 |nil=>intro d hd;simp at hd
 |cons x l ih =>
  intro d hd;simp only[DataW.weightsAll,Dv,Ai]at h;rcases Ar.1 hd with rfl | hd
  ·exact h.1
  ·exact ih h.2 d hd
theorem ql7{α:Type}(R:Nat->α->Prop):∀n:Nat,(∀i,i<n->∃x,R i x)->∃l:List α,l.length=n/\∀i x,l[i]?=some x->R i x
 |0,_=>⟨[],rfl,λi x h=>by simp at h⟩
 |n+1,h=>by
  obtain⟨l,h1,h2⟩:=ql7 R n λi hi=>h i (by omega);obtain⟨x,hx⟩:=h n (by omega);refine⟨l++[x],by simp[h1],λi y hy=>?_⟩;rw[Cq]at hy;split at hy
  ·exact h2 i y hy
  ·have hlt:=(Am.1 hy).1;simp at hlt;have:i=n:=by omega
   subst this;rw[h1,Cn]at hy;simp at hy;subst hy;exact hx
theorem ql8{w:World}{a:Addr}{v:Value}(h:w.cell? a=some v):a=⟨a.block,a.off,none⟩:=by
 obtain⟨b,o,s⟩:=a;unfold World.cell? at h;split at h
 ·cases s with
  |none=>rfl
  |some _=>simp at h
 ·cases h
theorem qsy{w:World}{a:Addr}{v:Value}(h:w.cell? a=some v):a.block<w.heap.size:=by
 unfold World.cell? at h;split at h
 ·rename_i c _ _ hb;exact(EU.1 hb).1
 ·cases h
theorem slice_rep{sz:Nat}{ag:Bool}{bytes:Nat}{es:List Shp}{a:Addr}{len cap:Nat}(hes:es.length=sz)(hsz:1<=sz)(hag:ag=false->es.length=1)(hlc:len<=cap)(hb:len*bytes<=140737488351232)
  (hel:∀i,i<len->∃fs cs,W.cells? 0 (a.add (i*sz)) sz=some cs/\All2 Fits es fs/\All2 (FRep W (Old W)) fs cs) :
  ∃x,Fits (.lst ag bytes es) x/\FRep W (Old W) x (.slice (some a) len cap):=by
 obtain⟨css,h1,h2⟩:=ql7 (λi fs=>∃cs,W.cells? 0 (a.add (i*sz)) sz=some cs/\All2 Fits es fs/\All2 (FRep W (Old W)) fs cs) len hel;have hlen:∀fs,fs∈css->fs.length=es.length:=λfs hf=>by
  obtain⟨i,hi⟩:=Bu.1 hf;obtain⟨cs,_,q,_⟩:=h2 i fs hi;exact q.len.symm
 have hcell:∀fs,fs∈css->(mkEl ag fs).cells=fs:=λfs hf=>by
  obtain⟨i,hi⟩:=Bu.1 hf;obtain⟨cs,_,q,_⟩:=h2 i fs hi;refine qsw (λh=>by rw[hlen fs hf,hag h]) λc hc=>?_;obtain⟨j,hj⟩:=Bu.1 hc;obtain⟨s,_,hs⟩:=q.getR' j c hj;exact hs.flat
 refine⟨.list es.length (css.map (mkEl ag)),.lst (by rw[h1];exact hb) hlen λi j cs s c q1 q2 q3=>?_,?_⟩
 ·obtain⟨vs,_,q,_⟩:=h2 i cs q1;obtain⟨c',r1,r2⟩:=q.get j s q2;rw[q3]at r1;cases r1;exact r2
 ·rw[FRep.q30];have first:css≠[]->∃v,W.cell? a=some v:=λhne=>by
   obtain⟨fs,hf⟩:∃fs,css[0]?=some fs:=by
    cases css with
    |nil=>exact absurd rfl hne
    |cons x _=>exact⟨x,rfl⟩
   obtain⟨cs,q1,q2,q3⟩:=h2 0 fs hf;obtain⟨r1,r2⟩:=ql5 q1;have:=r2 0 (by omega);rw[Dk]at this;have hadd:(a.add 0).add 0=a:=by simp[Addr.add]
   rw[hadd]at this;exact⟨cs[0],by rw[this,Ag (by omega)]⟩
  refine⟨some a,cap,a.block,a.off,by rw[Aa,h1],by rw[Aa,h1];exact hlc,λhne=>?_,λx hx=>?_,λi j x c q1 q2=>?_⟩
  ·have hne':css≠[]:=λh=>hne (by rw[h];rfl);obtain⟨v,hv⟩:=first hne'
   exact⟨by rw[ql8 hv],qsy hv⟩
  ·obtain⟨fs,hf,rfl⟩:=Bp.1 hx;rw[El,hcell fs hf];refine⟨hlen fs hf,λc hc=>?_⟩;obtain⟨i,hi⟩:=Bu.1 hf;obtain⟨cs,_,q,_⟩:=h2 i fs hi;obtain⟨j,hj⟩:=Bu.1 hc;obtain⟨s,_,hs⟩:=q.getR' j c hj;exact hs.flat
  ·rw[Br]at q1;obtain⟨fs,hf,rfl⟩:=BY.1 q1;rw[hcell fs (AQ hf)]at q2;obtain⟨cs,r1,r2,r3⟩:=h2 i fs hf;obtain⟨t1,t2⟩:=ql5 r1;obtain⟨v,u1,u2⟩:=r3.get j c q2;have hj:j<sz:=by rw[<- t1];exact(Am.1 u1).1
   have:=t2 j hj;rw[u1]at this;have hne:css≠[]:=by rintro rfl;simp at hf
   obtain⟨v0,hv0⟩:=first hne
   have ha:=ql8 hv0;refine⟨v,?_,u2⟩;rw[<- this];unfold cellAt;rw[ha];congr 1;rw[q53,q53,hes,Bl]
theorem ql9(hE:q14 E):∀(n:Nat) (t:TypeId) (ag:Bool) (ss:List Shp),shpOf E.ty n t=some (ag,ss)->ReadsAs E W enc sp held t ss
 |0,t,ag,ss,h=>by simp[shpOf]at h
 |n+1,t,ag,ss,h=>by
  intro fuel cs d p hd hw;have ih:=ql9 hE n;obtain⟨i,hi⟩:=qgy h;obtain⟨inf,dd,z,hT⟩:=q8i (hE.ty _ _ hi);obtain⟨s1,s2,s3,s4⟩:=qe1 hT hi h;have hu:=hT.und;unfold shpOf at h;rw[hi]at h;simp only at h;have hdesc:=hT.desc;split at h
  ·rename_i _ ha;obtain⟨he,h⟩:=bif_some' h;split at h
   ·rename_i ss' hf;obtain⟨hb,h⟩:=q7y h;cases h;cases dd <;> simp only[descOk,ha,he,Ao,Cj,CE,Bs]at hdesc;rename_i fs;simp only[AA,Bv]at hdesc;cases fuel with
    |zero=>simp[DataW.trod]at hd
    |succ fuel =>
     unfold DataW.trod at hd;rw[hu]at hd;simp only at hd;split at hd
     ·rename_i hcl;simp only[BY]at hd;obtain⟨xs,hxs,hx⟩:=hd;simp only[Bw]at hx;obtain⟨rfl,rfl⟩:=hx;simp only[DataW.weights,hu]at hw;rw[<- hdesc]at hf;obtain⟨fv,q1,q2⟩:=ql6 hE ih hf hxs hw (by rw[hcl,s3,AG];exact s1);exact⟨fv,q1,by simpa using q2⟩
     ·cases hd
   ·cases h
  ·rename_i k ha hk;cases h;have:dd=.int k:=by
    have h1:=hT.scalar ha;rw[hk]at h1;unfold ck1 at h1;split at h1 <;> first | (simp at h1;done) | (rename_i q;cases q;done) | (rename_i q;cases q;rw[q72.1 h1])
   subst this;obtain⟨m,rfl,hx,hwf⟩:=DataW.trod_int hu hd;obtain⟨w1,w2⟩:=kind_wf hwf;exact⟨[.int k m],.cons (.int w1 w2) .nil,.cons (.int _ _) .nil⟩
  ·rename_i ha hk;cases h;have:dd=.bool:=by
    have h1:=hT.scalar ha;rw[hk]at h1;unfold ck1 at h1;split at h1 <;> first | (simp at h1;done) | rfl | (rename_i q;cases q)
   subst this;obtain⟨m,rfl,hx⟩:=DataW.trod_bool hu hd;exact⟨[.bool m],.cons (.bool _) .nil,.cons (.bool _) .nil⟩
  ·rename_i ha hk;cases h;have:dd=.string:=by
    have h1:=hT.scalar ha;rw[hk]at h1;unfold ck1 at h1;split at h1 <;> first | (simp at h1;done) | rfl | (rename_i q;cases q)
   subst this;obtain⟨m,rfl,hx,hsz⟩:=DataW.trod_string hu hd;refine⟨[.str m],.cons (.str ?_) .nil,.cons (.str _) .nil⟩;simp only[Bw]at hx;obtain⟨rfl,_⟩:=hx;simp only[DataW.weights,Bk,ED,CG,At]at hw;simpa[reachBytes]using hw
  ·rename_i sz ha hk;split at h
   ·rename_i ag' es ei hsh hei;obtain⟨hb,h⟩:=q7y h;cases h;simp only[Ai]at hb;have e1:=Aw hb.1;have e2:=BB hb.2;have hdd:=hT.isSlice hk ha;subst hdd;obtain⟨inf',dd',z',hT'⟩:=q8i (hE.ty _ _ hei);obtain⟨t1,t2,t3,t4⟩:=qe1 hT' hei hsh;rcases DataW.trod_slice hu hd with⟨rfl,hx⟩ | ⟨a,len,cap,elems,rest,m,hfuel,rfl,hx,_,hlc,hcm,hlen,hel,_,_⟩
    ·refine⟨[.list es.length []],.cons ?_ .nil,.cons qae .nil⟩;have:=Fits.lst (agg:=ag') (bytes:=ei.bytes) (es:=es) (css:=[]) (by simp) (by simp) (by simp);simpa using this
    ·simp only[Bw]at hx;obtain⟨rfl,_⟩:=hx;simp only[DataW.weights,hu,Bk,Ai,At,Aa,Dv]at hw;have hwa:=qsx hw.2.1;have hbl:len*ei.bytes<=140737488351232:=by
      have h3:=hw.1;rw[t4,hlen]at h3;have:len*ei.bytes<=(len+rest.length)*ei.bytes:=AT _ (by omega);have h4:reachBytes=140737488351232:=rfl;omega
     obtain⟨x,x1,x2⟩:=slice_rep (W:=W) (sz:=sz) (ag:=ag') (bytes:=ei.bytes) (es:=es) (a:=a) (len:=len) (cap:=cap) e1 e2 (λh=>by subst h;exact shpOf_len hsh) hlc hbl (λi hi'=>by
      have h5:=hel i hi';have hi2:i<elems.length:=by omega
      rw[Ag hi2]at h5;obtain⟨cs,c1,c2⟩:=CD.1 h5;obtain⟨fs,f1,f2⟩:=ih _ _ _ hsh m cs elems[i].1 elems[i].2 c2 (hwa _ (Bp.2 ⟨elems[i],Ah hi2,rfl⟩))
      exact⟨fs,cs,by rw[t3,<- t1,e1]at c1;exact c1,f1,f2⟩)
     exact⟨[x],.cons x1 .nil,.cons x2 .nil⟩
   ·cases h
  ·cases h
end
end Rf
end
section
namespace Rf
open Go Go.RowKit
def tokOf:Shp->Tok
 |.int k=>.int k
 |.bool=>.bool
 |.str=>.str
 |.lst _ _ es=>.lst es.length
def toksOf(x:Bool×List Shp):List Tok:=bif x.1 then .agg x.2.length::x.2.map tokOf else x.2.map tokOf
def shpsOf(ty:Nat->Option TyI)(n:Nat):List TypeId->Option (List Shp×List Tok)
 |[]=>some ([],[])
 |t::ts=>match shpOf ty n t,shpsOf ty n ts with
  |some x,some (ss,T)=>some (x.2++ss,toksOf x++T)
  |_,_=>none
section
variable {E:Env} {H:Type} {enc:TypeId×Value->H} {W:World}
theorem leaf_tok{s:Shp}{x:FV}(h:Fits s x):leafT (tokOf s) x:=by
 cases h with
 |int _ _=>rfl
 |bool _=>trivial
 |str _=>trivial
 |lst _ _ _=>rfl
theorem qgz{S:Nat->Prop}:∀ {ss:List Shp} {fs:List FV} {cs:List Value},All2 Fits ss fs->All2 (FRep W S) fs cs->∀ {T:List Tok} {V:List Value} {L:List FV} {acc fin:GA},TRep W S T V L acc fin ->
  TRep W S (ss.map tokOf++T) (cs++V) (fs++L) acc fin
 |_,_,_,.nil,.nil,T,V,L,acc,fin,h=>h
 |_,_,_,.cons (x:=s) (y:=x) hf tf,.cons (y:=v) hr tr,T,V,L,acc,fin,h=>by
  have ih:=qgz tf tr h;have hl:=leaf_tok hf;cases hf with
  |int h1 h2=>exact⟨v,_,_,_,rfl,rfl,hl,hr,ih⟩
  |bool b=>exact⟨v,_,_,_,rfl,rfl,hl,hr,ih⟩
  |str h1=>exact⟨v,_,_,_,rfl,rfl,hl,hr,ih⟩
  |lst h1 h2 h3=>exact⟨v,_,_,_,rfl,rfl,hl,hr,ih⟩
theorem arg_rep(hE:q14 E){n:Nat}{t:TypeId}{x:Bool×List Shp}(hx:shpOf E.ty n t=some x){base:Nat}{sp:Nat->Bool}{held:Bool}{v:Value}{d:DataW H}{p:List MemPlace}(hd:DataW.Trod enc E.P W 0 sp held t v d p)(hv:Value.okWide E.P W .any base t v)
  (hw:(d.weights E.P t).all (·≤reachBytes)=true) :
  ∃fs,All2 Fits x.2 fs/\∀ {T:List Tok} {V:List Value} {L:List FV} {acc fin:GA},TRep W (Old W) T V L acc fin->TRep W (Old W) (toksOf x++T) (v::V) (fs++L) acc fin:=by
 obtain⟨ag,ss⟩:=x;obtain⟨fuel,hf⟩:=hd;obtain⟨fs,h1,h2⟩:=ql9 hE n t ag ss hx fuel _ d p hf hw;refine⟨fs,h1,λhT=>?_⟩;obtain⟨i,hi⟩:=qgy hx;obtain⟨inf,dd,z,hTy⟩:=q8i (hE.ty _ _ hi);obtain⟨s1,s2,_,_⟩:=qe1 hTy hi hx;cases n with
 |zero=>simp[shpOf]at hx
 |succ n =>
  have hdesc:=hTy.desc;cases ag with
  |true =>
   have hagg:∃cs,v=.agg cs:=by
    cases dd <;> simp only[descOk,<- s2,Ao,Cj,Bs]at hdesc
    ·unfold Value.okWide at hv;rw[hTy.und]at hv;obtain⟨cs,h,_⟩:=hv;exact⟨cs,h⟩
    ·unfold Value.okWide at hv;rw[hTy.und]at hv;obtain⟨cs,h,_⟩:=hv;exact⟨cs,h⟩
   obtain⟨cs,rfl⟩:=hagg;simp only[Value.cells]at h2;have e1:ss.length=fs.length:=h1.len;have e2:fs.length=cs.size:=by have:=h2.len;simpa using this
   exact⟨cs,_,rfl,by rw[<- e2,<- e1],qgz h1 h2 hT⟩
  |false =>
   have hone:v.cells=#[v]:=by
    have hsc:=hTy.scalar s2.symm;unfold shpOf at hx;rw[hi]at hx;simp only at hx;split at hx
    ·rename_i _ ha;rw[<- s2]at ha;cases ha
    all_goals first | (cases hx;done) | skip
    all_goals (rename_i hk;rw[hk]at hsc;unfold ck1 at hsc;split at hsc <;> first | (simp at hsc;done) | (rename_i q;cases q;done) | skip)
    ·obtain⟨m,rfl⟩:=WideShapes.okWide_int hTy.und hv;rfl
    ·obtain⟨m,rfl⟩:=WideShapes.okWide_bool hTy.und hv;rfl
    ·obtain⟨m,rfl⟩:=WideShapes.okWide_string hTy.und hv;rfl
    ·obtain⟨a,l,c,rfl⟩:=WideShapes.okWide_slice hTy.und hv;rfl
   rw[hone]at h2;exact qgz h1 h2 hT
theorem qla(hE:q14 E){n base:Nat}{sp:Nat->Bool}{held:Bool}:∀ {ts:List TypeId} {ss:List Shp} {T:List Tok},shpsOf E.ty n ts=some (ss,T)->∀ {vs:List Value} {ds:List (DataW H)} {p:List MemPlace},
  DataW.TrodAll enc E.P W 0 sp held ts vs ds p->(∀(j:Nat) t v,ts[j]?=some t->vs[j]?=some v->Value.okWide E.P W .any base t v)->(DataW.weightsEach E.P ts ds).all (·≤reachBytes)=true ->
  ∃L,All2 Fits ss L/\TRep W (Old W) T vs L [] []
 |[],ss,T,h,vs,ds,p,hA,_,_=>by
  simp only[shpsOf,AH,Bw]at h;obtain⟨rfl,rfl⟩:=h;cases vs <;> cases ds <;> simp only[DataW.TrodAll]at hA;exact⟨[],.nil,rfl,rfl,rfl⟩
 |t::ts,ss,T,h,vs,ds,p,hA,hv,hw=>by
  unfold shpsOf at h;split at h
  ·rename_i x ss' T' hx hs;cases h;cases vs <;> cases ds <;> simp only[DataW.TrodAll]at hA;rename_i v vs d ds;obtain⟨p1,p2,h1,h2,_⟩:=hA;simp only[DataW.weightsEach,Dv,Ai]at hw;obtain⟨L,l1,l2⟩:=qla hE hs h2 (λj t v q1 q2=>hv (j+1) t v (by simpa using q1) (by simpa using q2)) hw.2;obtain⟨fs,f1,f2⟩:=arg_rep hE hx h1 (hv 0 t v rfl rfl) hw.1;exact⟨fs++L,f1.app l1,f2 l2⟩
  ·cases h
theorem qlb{S:Nat->Prop}:∀ {n:Nat} {V R:List Value} {L:List FV} {fin:GA},V.length=n->TRep W S (List.replicate n .skip++[.bool]) (V++R) L [] fin->L=[.bool true]->R=[.bool true]
 |0,V,R,L,fin,hV,h,hL=>by
  have:V=[]:=De.1 hV;subst this;subst hL;obtain⟨v,V',x,L',h1,h2,h3,h4,h5⟩:=h;cases h2;cases h4;obtain⟨rfl,_,_⟩:=h5;simpa using h1
 |n+1,V,R,L,fin,hV,h,hL=>by
  cases V with
  |nil=>simp at hV
  |cons v V =>
   obtain⟨v',V',h1,h2⟩:=h;simp only[Al,AY]at h1;obtain⟨_,rfl⟩:=h1;exact qlb (by simpa using hV) h2 hL
theorem law_calls(hE:q14 E)(hX:q68 E){f:FuncId}{i:FnI}(hf:E.fn f=some i)(hvb:vb f=f){n base:Nat}{sp:Nat->Bool}{held:Bool}{ts:List TypeId}{ss:List Shp}(hs:shpsOf E.ty n ts=some (ss,i.tin))(ho:i.tout=List.replicate ts.length .skip++[.bool])
  {args:Array Value} {ds:List (DataW H)} {p:List MemPlace} (hA:DataW.TrodAll enc E.P W 0 sp held ts args.toList ds p) (hv:∀(j:Nat) t v,ts[j]?=some t->args.toList[j]?=some v->Value.okWide E.P W .any base t v)
  (hw:(DataW.weightsEach E.P ts ds).all (·≤reachBytes)=true) (htab:Tabs W (Old W)) (pure:∀L,All2 Fits ss L->∃n,evF E n f L=some [.bool true]) :
  Calls E.P f args W λe W'=>e=.returned (.bool true)/\Below W.heap.size W W':=by
 obtain⟨L,l1,l2⟩:=qla hE hs hA hv hw;obtain⟨m,hm⟩:=pure L l1;obtain⟨_,hC⟩:=evF_ok hE hX m f i L _ hf hm;rw[hvb]at hC;have hlen:args.toList.length=ts.length:=by
  have:∀ {ts:List TypeId} {vs:List Value} {ds:List (DataW H)} {p:List MemPlace},DataW.TrodAll enc E.P W 0 sp held ts vs ds p->vs.length=ts.length:=by
   intro ts
   induction ts with
   |nil=>intro vs ds p h;cases vs <;> cases ds <;> simp only[DataW.TrodAll]at h;rfl
   |cons t ts ih =>
    intro vs ds p h;cases vs <;> cases ds <;> simp only[DataW.TrodAll]at h;obtain⟨_,_,_,h,_⟩:=h;simp[ih h]
  exact this hA
 have:=hC W (Old W) args.toList [] (λb h=>h) htab l2 ⟨λi g sh h=>by simp at h,λi j g g' sh sh' h=>by simp at h⟩;rw[show args.toList.toArray=args by simp]at this;refine this.mono λe W' ⟨S',fin',R,h1,h2,h3,_⟩=>?_;rw[ho]at h2;have hR:=qlb hlen h2 rfl;subst hR;exact⟨h1,h3.os,h3.tape,h3.output,h3.size,λb hb=>h3.block b hb λ⟨i,g,sh,q,_⟩=>by simp at q⟩
theorem qkp(hl:laidOutB E.P=true){W':World}(hb:Below W.heap.size W W'):∀ {ts:List TypeId} {vs:List Value} {ds:List (DataW H)} {p:List MemPlace},ts.all (λt=>E.P.readableRec t&&decide (t<E.P.types.size))=true ->
  DataW.TrodAll enc E.P W 0 (λ_=>true) true ts vs ds p->(∀x∈p,x.block<W.heap.size)->DataW.TrodAll enc E.P W' 0 (λb=>decide (b<W.heap.size)) true ts vs ds p
 |[],vs,ds,p,_,h,_=>by cases vs <;> cases ds <;> simp only[DataW.TrodAll]at h ⊢;exact h
 |t::ts,vs,ds,p,hr,h,hlt=>by
  cases vs <;> cases ds <;> simp only[DataW.TrodAll]at h ⊢;obtain⟨p1,p2,h1,h2,rfl⟩:=h;simp only[Bk,Ai,At]at hr;exact⟨p1,p2,Below.trod hl hr.1.1 hr.1.2 h1 hb λx hx=>hlt x (Ef _ hx),qkp hl hb hr.2 h2 λx hx=>hlt x (DE _ hx),rfl⟩
end
end Rf
end
end
namespace Rf
open Go
theorem q9{i n:Nat}(h:i<n:=by omega):ix (i:Int) n=some i:=by
 unfold ix;rw[if_pos ⟨by omega,by omega⟩];rfl
theorem ix_int{i:Int}{n:Nat}(h0:0<=i)(h:i<n):ix i n=some i.toNat:=by
 unfold ix;rw[if_pos ⟨h0,h⟩]
theorem q1s{i n:Nat}(h:i<=n:=by omega):bd (i:Int) n=some i:=by
 unfold bd;rw[if_pos ⟨by omega,by omega⟩];rfl
theorem qo{x:Int}(h1:-9223372036854775808<=x:=by omega)(h2:x<=9223372036854775807:=by omega):w6 x=x:=by
 unfold w6 IntKind.wrap;simp[IntKind.bits,IntKind.signed];split <;> omega
theorem qd{i:Nat}(h:i<9223372036854775807):w6 ((i:Int)+1)=((i+1:Nat):Int):=by
 rw[qo];rfl
theorem q26{α:Type}(f:α->FV)(l:List α)(i c:Nat):at' (l.map f) i c=(l[i]?).bind λx=>(f x).cells[c]?:=by
 simp[at'];cases l[i]? <;> rfl
theorem q7c(x:FV)(c:Nat):at' [x] 0 c=x.cells[c]?:=rfl
theorem qi(k:IntKind)(n:Int):asInt k (some (.int k n))=some n:=by simp[asInt]
theorem q3x(b:Bool):asBool (some (.bool b))=some b:=rfl
theorem q2j(s:ByteArray):asStr (some (.str s))=some s:=rfl
theorem qx(z:Nat)(xs:List FV):asLst z (some (.list z xs))=some xs:=by simp[asLst]
theorem rr:(∀ {α β:Type} (a:α) (f:α->Option β),(some a).bind f=f a)/\(∀ {α:Type} (a:α) (l:List α),(a::l)[0]?=some a)/\(∀ {α:Type} (a:α) (l:List α) (i:Nat),(a::l)[i+1]?=l[i]?) /\
 (∀(z:Nat) (xs:List FV),asLst z (some (.list z xs))=some xs)/\(∀(k:IntKind) (n:Int),asInt k (some (.int k n))=some n)/\(∀b:Bool,asBool (some (.bool b))=some b)/\(∀s:ByteArray,asStr (some (.str s))=some s) /\
 (∀ {α:Type} (x y:α),cond true x y=x)/\(∀ {α:Type} (x y:α),cond false x y=y) :=
 ⟨λ_ _=>rfl,λ_ _=>rfl,λ_ _ _=>rfl,qx,qi,q3x,q2j,λ_ _=>rfl,λ_ _=>rfl⟩
theorem toList_eq(a b:ByteArray):(a.toList==b.toList)=decide (a=b):=by
 rw[<- beq_toListBytes];rw[Bm,MapKept.bytes_beq];simp
theorem All2.qcc{α β:Type}{R:α->β->Prop}{ys:List β}(h:All2 R [] ys):ys=[]:=by cases h;rfl
theorem All2.cons_inv{α β:Type}{R:α->β->Prop}{x:α}{xs:List α}{ys:List β}(h:All2 R (x::xs) ys):∃y ys',ys=y::ys'/\R x y/\All2 R xs ys':=by
 cases h with
 |cons h t=>exact⟨_,_,rfl,h,t⟩
theorem Fits.q22{k:IntKind}{x:FV}(h:Fits (.int k) x):∃n,x=.int k n/\k.min<=n/\n<=k.max:=by cases h with | int a b=>exact⟨_,rfl,a,b⟩
theorem Fits.q51{x:FV}(h:Fits .bool x):∃b,x=.bool b:=by cases h with | bool b=>exact⟨_,rfl⟩
theorem Fits.q5s{x:FV}(h:Fits .str x):∃s,x=.str s/\s.size<=140737488351232:=by cases h with | str a=>exact⟨_,rfl,a⟩
theorem Fits.lst_inv{ag:Bool}{by':Nat}{es:List Shp}{x:FV}(h:Fits (.lst ag by' es) x):∃css:List (List FV),x=.list es.length (css.map (mkEl ag))/\css.length*by'<=140737488351232/\∀cs,cs∈css->All2 Fits es cs:=by
 cases h with
 |lst h1 h2 h3 =>
  refine⟨_,rfl,h1,λcs hcs=>.of (h2 cs hcs).symm λj s c q1 q2=>?_⟩;obtain⟨i,hi⟩:=Bu.1 hcs;exact h3 i j cs s c hi q1 q2
theorem Fits.qfq{α:Type}{ag:Bool}{by':Nat}{es:List Shp}{x:FV}(h:Fits (.lst ag by' es) x)(f:α->FV){R:α->Prop}(hf:∀cs,All2 Fits es cs->∃a,mkEl ag cs=f a/\R a) :
  ∃l:List α,x=.list es.length (l.map f)/\l.length*by'<=140737488351232/\∀a,a∈l->R a:=by
 obtain⟨css,rfl,h1,h2⟩:=h.lst_inv;clear h;have:∀css:List (List FV),(∀cs,cs∈css->All2 Fits es cs)->∃l:List α,css.map (mkEl ag)=l.map f/\l.length=css.length/\∀a,a∈l->R a:=by
  intro css
  induction css with
  |nil=>intro _;exact⟨[],rfl,rfl,λa h=>by simp at h⟩
  |cons c css ih =>
   intro h;obtain⟨l,q1,q2,q3⟩:=ih λcs hcs=>h cs (AC _ hcs);obtain⟨a,p1,p2⟩:=hf c (h c AJ);refine⟨a::l,by simp[q1,p1],by simp[q2],λb hb=>?_⟩;rcases Ar.1 hb with rfl | hb
   ·exact p2
   ·exact q3 b hb
 obtain⟨l,q1,q2,q3⟩:=this css h2;exact⟨l,by rw[q1],by rw[q2];exact h1,q3⟩
theorem qho(a b:FV):keq a b=keq b a:=by
 have one:∀a b:FV,keq1 a b=keq1 b a:=by
  intro a b;cases a <;> cases b <;> simp only[keq1] <;> rw[Bm] <;> simp only[Bv] <;> exact eq_comm
 have all:∀as bs:List FV,keqs as bs=keqs bs as:=by
  intro as
  induction as with
  |nil=>intro bs;cases bs <;> rfl
  |cons a as ih =>
   intro bs;cases bs with
   |nil=>rfl
   |cons b bs=>simp only[keqs,one a b,ih bs]
 exact all _ _
theorem keq_left{k k' x:FV}(h:keq k' k=true):keq k' x=keq k x:=by
 rw[qho k' x,qho k x];rw[qho]at h;exact(qg4 h)
theorem qie(k v:FV)(c:Int)(k' z:FV):∀es:List FV,mgetD (mput es k v c) k' z=bif keq k' k then v else mgetD es k' z
 |[]=>by
  simp only[mput,mgetD,entKey,q4x]
 |e::es=>by
  have ih:=qie k v c k' z es;simp only[mput];cases h:keq k (entKey e)with
  |true =>
   simp only[Ac,mgetD,entKey,q4x];have h2:keq k' (entKey e)=keq k' k:=qg4 h;simp only[entKey]at h2;rw[h2];cases keq k' k <;> rfl
  |false =>
   simp only[Ab,mgetD,ih];cases h2:keq k' k with
   |true=>rw[keq_left h2,h];rfl
   |false=>rfl
def MWf:List FV->Int->Prop
 |[],_=>True
 |e::es,c=>entBorn e<c/\(∀x,x∈es->entBorn x≠entBorn e)/\MWf es c
theorem MWf.mem{es:List FV}{c:Int}(h:MWf es c):∀e,e∈es->entBorn e<c:=by
 induction es with
 |nil=>intro e he;simp at he
 |cons x es ih =>
  intro e he;rcases Ar.1 he with rfl | he
  ·exact h.1
  ·exact ih h.2.2 e he
theorem MWf.mono{es:List FV}{c c':Int}(h:MWf es c)(hc:c<=c':=by omega):MWf es c':=by
 induction es with
 |nil=>trivial
 |cons x es ih=>exact⟨by have:=h.1;omega,h.2.1,ih h.2.2⟩
theorem qml(k v:FV)(c:Int):∀ {es:List FV} {x:FV},x∈mput es k v c->(∃y,y∈es/\entBorn y=entBorn x)\/(entBorn x=c/\mhas es k=false)
 |[],x,h=>by simp[mput]at h;subst h;exact .inr ⟨rfl,rfl⟩
 |e::es,x,h=>by
  simp only[mput]at h;cases hk:keq k (entKey e)with
  |true =>
   rw[hk,Ac]at h;rcases Ar.1 h with rfl | h
   ·exact .inl ⟨e,by simp,rfl⟩
   ·exact .inl ⟨x,AC _ h,rfl⟩
  |false =>
   rw[hk,Ab]at h;rcases Ar.1 h with rfl | h
   ·exact .inl ⟨_,by simp,rfl⟩
   ·rcases qml k v c h with⟨y,h1,h2⟩ | ⟨h1,h2⟩
    ·exact .inl ⟨y,AC _ h1,h2⟩
    ·exact .inr ⟨h1,by simpa[mhas,hk]using h2⟩
theorem MWf.put{k v:FV}:∀ {es:List FV} {c:Int},MWf es c->MWf (mput es k v c) (mclk es k c)
 |[],c,h=>⟨by simp[entBorn,mclk,mhas];omega,λx h=>by simp at h,trivial⟩
 |e::es,c,h=>by
  simp only[mput];cases hk:keq k (entKey e)with
  |true =>
   have:mclk (e::es) k c=c:=by simp[mclk,mhas,hk]
   rw[this,Ac];exact⟨h.1,h.2.1,h.2.2⟩
  |false =>
   have hc:mclk (e::es) k c=mclk es k c:=by simp[mclk,mhas,hk]
   rw[hc,Ab];have hle:c<=mclk es k c:=by unfold mclk;cases mhas es k <;> simp;omega
   refine⟨by have:=h.1;omega,λx hx=>?_,h.2.2.put⟩;rcases qml k v c hx with⟨y,h1,h2⟩ | ⟨h1,_⟩
   ·rw[<- h2];exact h.2.1 y h1
   ·rw[h1];have:=h.1;omega
theorem qif(k z:FV)(c:Int):∀es:List FV,q5g (ment es k z c) (mborn es k c)=true
 |[]=>by simp[ment,mborn,q5g,entBorn]
 |e::es=>by
  have ih:=qif k z c es;simp only[ment,mborn];cases hk:keq k (entKey e)with
  |true=>simp[q5g,entBorn]
  |false =>
   simp only[Ab,q5g,DG]at ih ⊢;rw[ih,Bool.or_true]
theorem qew(k z v:FV):∀ {es:List FV} {c:Int},MWf es c->msetB (ment es k z c) (mborn es k c) v=mput es k v c
 |[],c,_=>by simp[ment,mborn,msetB,mput,entBorn,entKey]
 |e::es,c,h=>by
  have ih:=qew k z v h.2.2;simp only[ment,mborn,mput];cases hk:keq k (entKey e)with
  |true=>simp[msetB,entBorn,entKey]
  |false =>
   simp only[Ab,msetB];have hne:(entBorn e==mborn es k c)=false:=by
    have hb:∀ {es:List FV},(∃y,y∈es/\entBorn y=mborn es k c)\/mborn es k c=c:=by
     intro es
     induction es with
     |nil=>exact .inr rfl
     |cons x es ih =>
      simp only[mborn];cases hk:keq k (entKey x)with
      |true=>exact .inl ⟨x,by simp,rfl⟩
      |false =>
       rcases ih with⟨y,h1,h2⟩ | h
       ·exact .inl ⟨y,AC _ h1,h2⟩
       ·exact .inr h
    rcases hb (es:=es)with⟨y,h1,h2⟩ | h1
    ·rw[<- h2];simpa using BR (h.2.1 y h1)
    ·rw[h1];have:=h.1;simp;omega
   rw[hne,Ab,ih]
end Rf
