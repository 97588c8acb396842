/- Texts of this work put together, their blanks and comments taken out: Rf14, Rf15, Rf16. -/
import Derived.Test.YtcpnpoagpnkblaaGreatDoorOMB
import Derived.Laws.StructEq
import Derived.ChangeKeysEq
import Derived.Carry
import Derived.Laws.Tables
set_option linter.unusedVariables false
set_option linter.unusedSimpArgs false
section
section
/- Maps: what an operation on a map does, against what it does to the abstract one. -/
namespace Rf
open Go
theorem ckEq_eq:∀ {a b:CK},ckEq a b=true->a=b:=by
 intro a b h;cases a <;> cases b <;> simp only[ckEq,Br]at h
 ·rw[q7c.1 h]
 ·rfl
 ·rfl
 ·rw[Aw h]
 ·rw[(qdz h).1]
theorem qkj:∀ {a b:List CK},cksEq a b=true->a=b
 |[],[],_=>rfl
 |[],_::_,h=>by simp[cksEq]at h
 |_::_,[],h=>by simp[cksEq]at h
 |a::as,b::bs,h=>by
  simp only[cksEq,Ai]at h;rw[ckEq_eq h.1,qkj h.2]
theorem zEq1_eq{a b:FV}(h:zEq1 a b=true):a=b:=by
 unfold zEq1 at h;split at h
 ·simp only[Ai]at h;obtain⟨h1,h2⟩:=h;rw[q7c.1 h1];split at h2
  ·rfl
  ·simp at h2
 ·rfl
 ·rfl
 ·rw[Aw h]
 ·rw[(qdz h).1]
 ·simp at h
theorem zEqs_eq:∀ {a b:List FV},zEqs a b=true->a=b
 |[],[],_=>rfl
 |[],_::_,h=>by simp[zEqs]at h
 |_::_,[],h=>by simp[zEqs]at h
 |a::as,b::bs,h=>by
  simp only[zEqs,Ai]at h;rw[zEq1_eq h.1,zEqs_eq h.2]
theorem zEq_eq{a b:FV}(h:zEq a b=true):a=b:=by
 unfold zEq at h;split at h
 ·rw[zEqs_eq h]
 ·simp at h
 ·simp at h
 ·exact zEq1_eq h
theorem qfw{a a':Bool}{b b':List CK}{c c':FV}(h:mkEq a b c a' b' c'=true):a=a'/\b=b'/\c=c':=by
 simp only[mkEq,Ai]at h;refine⟨?_,qkj h.1.2,zEq_eq h.2⟩;have:=h.1.1;cases a <;> cases a' <;> simp_all[bEq]
theorem q6z{c:CK}{x:FV}(h:kfit c x=true):(∃k n,c=.int k/\x=.int k n)\/(∃b,c=.bool/\x=.bool b)\/∃s,c=.str/\x=.str s:=by
 unfold kfit at h;split at h <;> first | exact .inl ⟨_,_,rfl,rfl⟩ | exact .inr (.inl ⟨_,rfl,rfl⟩) | exact .inr (.inr ⟨_,rfl,rfl⟩) | simp at h
section
variable {P:Program} {w w':World} {S:Nat->Prop}
theorem qgk{t:TypeId}{c:CK}(h:basicT P t c=true):P.plainKey t=true:=by
 unfold basicT at h;unfold Program.plainKey;split at h <;> simp_all
theorem qkk{t:TypeId}{c:CK}{x y:FV}{v u:Value}(d:Nat)(hb:basicT P t c=true)(hx:kfit c x=true)(hy:kfit c y=true)(hv:FRep w S x v)(hu:FRep w S y u) :
  (Op.equalIn (d+1) t v u).run P w'=.ok (keq1 x y) w':=by
 rcases q6z hx with⟨k,n,rfl,rfl⟩ | ⟨b,rfl,rfl⟩ | ⟨s,rfl,rfl⟩
 ·rcases q6z hy with⟨k',n',hc,rfl⟩ | ⟨b',hc,rfl⟩ | ⟨s',hc,rfl⟩ <;> cases hc
  cases hv;cases hu;unfold basicT at hb;split at hb <;> simp_all;rw[run_equalIn_int w' d t _ _ n n' (by assumption)];rfl
 ·rcases q6z hy with⟨k',n',hc,rfl⟩ | ⟨b',hc,rfl⟩ | ⟨s',hc,rfl⟩ <;> cases hc
  cases hv;cases hu;unfold basicT at hb;split at hb <;> simp_all;rw[run_equalIn_bool' w' d t b b' (by assumption)];rfl
 ·rcases q6z hy with⟨k',n',hc,rfl⟩ | ⟨b',hc,rfl⟩ | ⟨s',hc,rfl⟩ <;> cases hc
  cases hv;cases hu;unfold basicT at hb;split at hb <;> simp_all;rw[run_equalIn_string w' d t s s' (by assumption)];rfl
theorem qgl{t:TypeId}{c:CK}{x:FV}{v:Value}(hb:basicT P t c=true)(hx:kfit c x=true)(hv:FRep w S x v):∃d,P.underlying t=some d/\MapKept.IsKey d v:=by
 rcases q6z hx with⟨k,n,rfl,rfl⟩ | ⟨b,rfl,rfl⟩ | ⟨s,rfl,rfl⟩ <;> cases hv <;> (unfold basicT at hb;split at hb <;> simp_all[MapKept.IsKey])
 rw[q7c.1 hb]
theorem qkl{t:TypeId}{c:CK}{x:FV}{v:Value}(em:Bool)(n:Nat)(hb:basicT P t c=true)(hx:kfit c x=true)(hv:FRep w S x v):(Instr.checkKey em (n+1) t v).run P w'=.ok () w':=by
 obtain⟨d,h1,h2⟩:=qgl hb hx hv;exact MapKept.run_checkKey h1 h2 em n
def q7w(w:World)(S:Nat->Prop)(xs:List FV)(j:Nat)(vs:Array Value):Prop:=∀i x,xs[i]?=some x->∃v,vs[j+i]?=some v/\FRep w S x v
theorem q7w.tail{x:FV}{xs:List FV}{j:Nat}{vs:Array Value}(h:q7w w S (x::xs) j vs):q7w w S xs (j+1) vs:=λi y hy=>by
 have:=h (i+1) y (by simpa using hy);rwa[show j+1+i=j+(i+1) by omega]
theorem qkm(d:Nat){vs us:Array Value}:∀ {fs:List Field} {j:Nat} {cs:List CK} {xs ys:List FV},fldsOk P fs j cs=true->kfits cs xs=true->kfits cs ys=true->q7w w S xs j vs->q7w w S ys j us ->
  (Op.eqFields (d+1) vs us fs).run P w'=.ok (keqs xs ys) w'
 |[],j,[],[],[],_,_,_,_,_=>by simp[Op.eqFields,keqs]
 |[],_,[],_::_,_,_,h,_,_,_=>by simp[kfits]at h
 |[],_,[],_,_::_,_,_,h,_,_=>by simp[kfits]at h
 |[],_,_::_,_,_,h,_,_,_,_=>by simp[fldsOk]at h
 |_::_,_,[],_,_,h,_,_,_,_=>by simp[fldsOk]at h
 |_::_,_,_::_,[],_,_,h,_,_,_=>by simp[kfits]at h
 |_::_,_,_::_,_,[],_,_,h,_,_=>by simp[kfits]at h
 |f::fs,j,c::cs,x::xs,y::ys,h,hx,hy,hv,hu=>by
  simp only[fldsOk,Ai,CG,Bu]at h;simp only[kfits,Ai]at hx hy;obtain⟨⟨⟨h1,h2⟩,h3⟩,h4⟩:=h;obtain⟨v,q1,q2⟩:=hv 0 x rfl;obtain⟨u,p1,p2⟩:=hu 0 y rfl;rw[Ay]at q1 p1;have ih:=qkm d h4 hx.2 hy.2 hv.tail hu.tail;rw[<- h2]at q1 p1;simp only[Op.eqFields,h1,ne_eq,Ei,AW,Sem.run_bind,run_part_plain w' (qgk h3) q1,run_part_plain w' (qgk h3) p1,qkk d h3 hx.1 hy.1 q2 p2,Result.andThen_ok];cases hk:keq1 x y with
  |false=>simp[keqs,hk]
  |true=>simpa[keqs,hk]using ih
theorem qkn(em:Bool)(n:Nat){vs:Array Value}:∀ {fs:List Field} {j:Nat} {cs:List CK} {xs:List FV},fldsOk P fs j cs=true->kfits cs xs=true->q7w w S xs j vs ->
  (forIn (m:=Sem) fs PUnit.unit (λf _=>if f.name ≠ "_" then(do
   let l <- part f.type vs f.offset
   Instr.checkKey em (n+1) f.type l
   pure (ForInStep.yield PUnit.unit))else pure (ForInStep.yield PUnit.unit))).run P w'=.ok PUnit.unit w'
 |[],_,_,_,_,_,_=>by simp
 |_::_,_,[],_,h,_,_=>by simp[fldsOk]at h
 |_::_,_,_::_,[],_,h,_=>by simp[kfits]at h
 |f::fs,j,c::cs,x::xs,h,hx,hv=>by
  simp only[fldsOk,Ai,CG,Bu]at h;simp only[kfits,Ai]at hx;obtain⟨⟨⟨h1,h2⟩,h3⟩,h4⟩:=h;obtain⟨v,q1,q2⟩:=hv 0 x rfl;rw[Ay]at q1;have ih:=qkn em n h4 hx.2 hv.tail;rw[<- h2]at q1;rw[List.forIn_cons];simp only[h1,ne_eq,Ei,AW,Sem.run_bind,run_part_plain w' (qgk h3) q1,qkl em n h3 hx.1 q2,Result.andThen_ok,Sem.run_pure];exact ih
theorem qbt{cs:List FV}{v:Value}(h:FRep w S (.agg cs) v):∃vs,v=.agg vs/\q7w w S cs 0 vs:=by
 cases h with
 |agg _ vs hs h =>
  refine⟨vs,rfl,λi x hx=>?_⟩;have:=h i x hx;have hi:i<vs.size:=by rw[hs];exact(Ao.1 hx).1
  refine⟨vs[i],by rw[AJ];exact Bp hi,?_⟩;simpa[Az,hi]using this
theorem q70{ks:List CK}{k:FV}(h:q2m false ks k=true):∃c,ks=[c]/\kfit c k=true/\k.cells=[k]:=by
 simp only[q2m,Ab,Ai,Ch]at h;cases k with
 |agg cs=>simp[FV.isAgg]at h
 |_ =>
  obtain⟨_,h⟩:=h;simp only[FV.cells]at h;cases ks with
  |nil=>simp[kfits]at h
  |cons c cs =>
   cases cs with
   |nil=>exact⟨c,rfl,by simpa[kfits]using h,rfl⟩
   |cons _ _=>simp[kfits]at h
theorem q8r{ks:List CK}{k:FV}(h:q2m true ks k=true):∃cs,k=.agg cs/\kfits ks cs=true:=by
 simp only[q2m,Ac,Ai]at h;cases k with
 |agg cs=>exact⟨cs,rfl,h.2⟩
 |_=>simp[FV.isAgg]at h
theorem qgm{kt:TypeId}{ki:TyI}(h:chkKey P kt ki=true) :
  (∃fs,P.underlying kt=some (.struct fs)/\ki.agg=true/\P.stoodInHeld kt=false/\fldsOk P fs.toList 0 ki.ck=true) \/
  (∃d c,P.underlying kt=some d/\(∀fs,d≠.struct fs)/\ki.agg=false/\ki.ck=[c]/\basicT P kt c=true):=by
 unfold chkKey at h;split at h
 ·rename_i fs hu;simp only[Ai,Ch]at h;exact .inl ⟨fs,hu,h.1.1,h.1.2,h.2⟩
 ·rename_i d hne hu;simp only[Ai,Ch]at h;obtain⟨h1,h2⟩:=h;split at h2
  ·rename_i c hc;exact .inr ⟨d,c,hu,λfs q=>hne fs (by rw[<- q]),h1,hc,h2⟩
  ·simp at h2
 ·simp at h
theorem run_checkKey'{kt:TypeId}{ki:TyI}{x:FV}{v:Value}(em:Bool)(hc:chkKey P kt ki=true)(hx:q2m ki.agg ki.ck x=true)(hv:FRep w S x v):(Instr.checkKey em 10000 kt v).run P w'=.ok () w':=by
 rcases qgm hc with⟨fs,h1,h2,h3,h4⟩ | ⟨d,c,h1,_,h2,h3,h4⟩
 ·rw[h2]at hx;obtain⟨cs,rfl,hk⟩:=q8r hx;obtain⟨vs,rfl,hcell⟩:=qbt hv;have:=qkn (w':=w') em 9998 h4 hk hcell;unfold Instr.checkKey;simp only[Sem.run_bind,run_underlying h1,Result.andThen_ok];rw[<- Array.forIn_toList];refine(congrArg (λr:Result PUnit=>r.andThen λ_ w'=>Sem.run P (pure ()) w') this).trans ?_;simp
 ·rw[h2,h3]at hx;obtain⟨c',hc',hf,_⟩:=q70 hx;cases hc';exact qkl em 9999 h4 hf hv
theorem qrn{kt:TypeId}{ki:TyI}{x y:FV}{v u:Value}(hc:chkKey P kt ki=true)(hx:q2m ki.agg ki.ck x=true)(hy:q2m ki.agg ki.ck y=true)(hv:FRep w S x v)(hu:FRep w S y u) :
  (Op.equal kt v u).run P w'=.ok (keq x y) w':=by
 rcases qgm hc with⟨fs,h1,h2,h3,h4⟩ | ⟨d,c,h1,_,h2,h3,h4⟩
 ·rw[h2]at hx hy;obtain⟨cs,rfl,hk⟩:=q8r hx;obtain⟨ds,rfl,hl⟩:=q8r hy;obtain⟨vs,rfl,hcell⟩:=qbt hv;obtain⟨us,rfl,hdell⟩:=qbt hu;have hfs:P.fieldsOf kt=fs:=by simp[Program.fieldsOf,h1]
  have:=qkm (w':=w') 9998 h4 hk hl hcell hdell;show(Op.equalIn (9999+1) kt (.agg vs) (.agg us)).run P w'=_;rw[run_equalIn_struct w' 9999 kt vs us (by rw[hfs];exact h1) h3,hfs];exact this
 ·rw[h2,h3]at hx hy;obtain⟨c',hc',hf,e1⟩:=q70 hx;cases hc';obtain⟨c',hc',hf',e2⟩:=q70 hy;cases hc';have:=qkk (w':=w') 9999 h4 hf hf' hv hu;show(Op.equalIn (9999+1) kt v u).run P w'=_;rw[this,keq,e1,e2];simp[keqs]
theorem keq1_eq{c:CK}{x y:FV}(hx:kfit c x=true)(hy:kfit c y=true):keq1 x y=true↔x=y:=by
 rcases q6z hx with⟨k,n,rfl,rfl⟩ | ⟨b,rfl,rfl⟩ | ⟨s,rfl,rfl⟩ <;> rcases q6z hy with⟨k',n',hc,rfl⟩ | ⟨b',hc,rfl⟩ | ⟨s',hc,rfl⟩ <;> cases hc
 ·simp[keq1]
 ·simp[keq1]
 ·simp only[keq1,Bu,FV.str.injEq];constructor
  ·intro h;have:=(beq_toListBytes s s').trans (Bu.2 (by simpa using h));exact(MapKept.bytes_beq s s').1 this
  ·rintro rfl;rfl
theorem keqs_eq:∀ {cs:List CK} {xs ys:List FV},kfits cs xs=true->kfits cs ys=true->(keqs xs ys=true↔xs=ys)
 |[],[],[],_,_=>by simp[keqs]
 |[],_::_,_,h,_=>by simp[kfits]at h
 |[],_,_::_,_,h=>by simp[kfits]at h
 |_::_,[],_,h,_=>by simp[kfits]at h
 |_::_,_,[],_,h=>by simp[kfits]at h
 |c::cs,x::xs,y::ys,hx,hy=>by
  simp only[kfits,Ai]at hx hy;simp only[keqs,Ai,keq1_eq hx.1 hy.1,keqs_eq hx.2 hy.2,Ba]
theorem qap{kag:Bool}{ks:List CK}{x y:FV}(hx:q2m kag ks x=true)(hy:q2m kag ks y=true):keq x y=true↔x=y:=by
 cases kag with
 |true =>
  obtain⟨cs,rfl,h1⟩:=q8r hx;obtain⟨ds,rfl,h2⟩:=q8r hy;simp only[keq,FV.cells,keqs_eq h1 h2,FV.agg.injEq]
 |false =>
  obtain⟨c,rfl,h1,e1⟩:=q70 hx;obtain⟨c',hc,h2,e2⟩:=q70 hy;cases hc;simp only[keq,e1,e2,keqs,CH,keq1_eq h1 h2]
theorem qaq{c:CK}{x:FV}{v u:Value}(hx:kfit c x=true)(hv:FRep w S x v)(hu:FRep w S x u):v=u/\∀n,Instr.sameBits n v v=true:=by
 rcases q6z hx with⟨k,n,rfl,rfl⟩ | ⟨b,rfl,rfl⟩ | ⟨s,rfl,rfl⟩ <;> cases hv <;> cases hu <;> refine⟨rfl,λn=>?_⟩ <;> cases n <;> simp[Instr.sameBits,(MapKept.bytes_beq _ _).2 rfl]
theorem qgn{kag:Bool}{ks:List CK}{x:FV}{v u:Value}(hx:q2m kag ks x=true)(hv:FRep w S x v)(hu:FRep w S x u):v=u/\Instr.sameBits 10000 v v=true:=by
 cases kag with
 |false =>
  obtain⟨c,rfl,h1,e1⟩:=q70 hx;exact⟨(qaq h1 hv hu).1,(qaq h1 hv hv).2 _⟩
 |true =>
  obtain⟨cs,rfl,h1⟩:=q8r hx;have hfit:∀ {ks:List CK} {cs:List FV},kfits ks cs=true->∀(i:Nat) (x:FV),cs[i]?=some x->∃c,kfit c x=true:=by
   intro ks
   induction ks with
   |nil=>intro cs h i x hi;cases cs <;> simp_all[kfits]
   |cons c ks ih =>
    intro cs h i x hi;cases cs with
    |nil=>simp at hi
    |cons y cs =>
     simp only[kfits,Ai]at h;cases i with
     |zero=>simp at hi;subst hi;exact⟨c,h.1⟩
     |succ i=>exact ih h.2 i x (by simpa using hi)
  cases hv with
  |agg _ vs hs h =>
   cases hu with
   |agg _ us hs' h' =>
    have heq:∀i (hi:i<vs.size),vs[i]?=us[i]?/\∀n,Instr.sameBits n vs[i] vs[i]=true:=λi hi=>by
     have hc:i<cs.length:=by rw[<- hs];exact hi
     obtain⟨c,hc'⟩:=hfit h1 i cs[i] (Ag hc);have q1:=h i cs[i] (Ag hc);have q2:=h' i cs[i] (Ag hc);have hi':i<us.size:=by rw[hs'];exact hc
     rw[Az,Bp hi,Bg]at q1;rw[Az,Bp hi',Bg]at q2;rw[Bp hi,Bp hi',(qaq hc' q1 q2).1];exact⟨rfl,by rw[<- (qaq hc' q1 q2).1];exact(qaq hc' q1 q1).2⟩
    refine⟨?_,?_⟩
    ·congr 1;apply Array.ext_getElem?;intro i;by_cases hi:i<vs.size
     ·exact(heq i hi).1
     ·rw[Dj (by omega),Dj (by omega)]
    ·unfold Instr.sameBits;simp only[Bi,AB,Au];rintro⟨p1,p2⟩ hp;obtain⟨i,hi⟩:=Bt.1 hp;rw[CM]at hi;obtain⟨i1,i2⟩:=hi;simp only at i1 i2;have hlt:i<vs.size:=by
      have:=(Ao.1 i1).1;simpa using this
     rw[i1]at i2;rw[By,Bp hlt]at i1;simp only[AH]at i1 i2;subst i2;rw[<- i1];exact(heq i hlt).2 _
theorem qko{kag:Bool}{ks:List CK}{x:FV}{v u:Value}(hx:q2m kag ks x=true)(hv:FRep w S x v)(hu:FRep w S x u):(Instr.keyThatStays v u).run P w'=.ok u w':=by
 obtain⟨rfl,h⟩:=qgn hx hv hu;simp[Instr.keyThatStays,h]
end
end Rf
end
section
namespace Rf
open Go
theorem FRep.ofCells{w:World}{S:Nat->Prop}{xs:List FV}{vs:Array Value}(hs:vs.size=xs.length)(h:∀(j:Nat) (c:FV),xs[j]?=some c->∃u,vs[j]?=some u/\FRep w S c u):FRep w S (.agg xs) (.agg vs) :=
 .agg xs vs hs λj c hj=>by
  obtain⟨u,h1,h2⟩:=h j c hj;rw[Az,h1,Bg];exact h2
section
variable {P:Program} {w w':World} {S:Nat->Prop}
def fnd(k:FV):List FV->List MapEntry->Nat->Option (Nat×Value)
 |x::es,e::r,i=>if keq k (entKey x)=true then some (i,e.val)else fnd k es r (i+1)
 |_,_,_=>none
theorem ERep.key{kag:Bool}{ks:List CK}{z x:FV}{e:MapEntry}(h:ERep w S kag ks z x e):q2m kag ks (entKey x)=true/\FRep w S (entKey x) e.key/\q3a z (q57 x)=true/\FRep w S (q57 x) e.val/\entBorn x=e.born:=by
 obtain⟨k,v,rfl,h1,h2,h3,h4⟩:=h;exact⟨h1,h3,h2,h4,rfl⟩
theorem qkp{kt:TypeId}{ki:TyI}{z:FV}{k:FV}{kv:Value}(hc:chkKey P kt ki=true)(hk:q2m ki.agg ki.ck k=true)(hv:FRep w S k kv):∀ {es:List FV} {l:List MapEntry} {i:Nat},All2 (ERep w S ki.agg ki.ck z) es l ->
  (Instr.findAsking kt kv l i).run P w'=.ok (fnd k es l i) w'
 |_,_,i,.nil=>by simp[Instr.findAsking,fnd]
 |_,_,i,.cons (x:=x) (y:=e) (xs:=es) (ys:=l) h t=>by
  obtain⟨h1,h2,_⟩:=h.key;have ih:=qkp (i:=i+1) hc hk hv t;simp only[Instr.findAsking,Sem.run_bind,qrn hc hk h1 hv h2,Result.andThen_ok,fnd];cases keq k (entKey x)with
  |true=>simp
  |false=>simpa using ih
theorem qgo{c:CK}{x y:FV}{v:Value}(hx:kfit c x=true)(hy:kfit c y=true)(hv:FRep w S x v)(hu:FRep w S y v):x=y:=by
 rcases q6z hx with⟨q,n,rfl,rfl⟩ | ⟨b,rfl,rfl⟩ | ⟨s,rfl,rfl⟩ <;> rcases q6z hy with⟨q',n',hc,rfl⟩ | ⟨b',hc,rfl⟩ | ⟨s',hc,rfl⟩ <;> cases hc <;> cases hv <;> cases hu <;> rfl
theorem qkq{kt:TypeId}{d:TypeDesc}{c:CK}{z:FV}{k:FV}{kv:Value}(hd:P.underlying kt=some d)(hb:basicT P kt c=true)(hk:q2m false [c] k=true)(hv:FRep w S k kv):∀ {es:List FV} {l:List MapEntry} {i:Nat},All2 (ERep w S false [c] z) es l ->
  Instr.findNow d kv l i=some (fnd k es l i)
 |_,_,i,.nil=>by simp[Instr.findNow,fnd]
 |_,_,i,.cons (x:=x) (y:=e) (xs:=es) (ys:=l) h t=>by
  obtain⟨h1,h2,_⟩:=h.key;have ih:=qkq (i:=i+1) hd hb hk hv t;obtain⟨c1,q1,f1,_⟩:=q70 hk;cases q1;obtain⟨c2,q2,f2,_⟩:=q70 h1;cases q2;obtain⟨d1,u1,k1⟩:=qgl hb f1 hv;obtain⟨d2,u2,k2⟩:=qgl hb f2 h2;rw[hd]at u1 u2;cases u1;cases u2;obtain⟨r,hr,hiff⟩:=MapKept.sameNow_of_keys k1 k2;simp only[Instr.findNow,hr,fnd];have hkeq:keq k (entKey x)=r:=by
   rw[Bm,hiff,qap hk h1];constructor
   ·intro he;rw[he]at hv f1;exact(qaq f1 hv h2).1
   ·intro he;rw[<- he]at h2;exact qgo f1 f2 hv h2
  rw[hkeq];cases r with
  |true=>simp
  |false=>simpa using ih
theorem run_findKey'{kt:TypeId}{ki:TyI}{z:FV}{k:FV}{kv:Value}(hc:chkKey P kt ki=true)(hk:q2m ki.agg ki.ck k=true)(hv:FRep w S k kv){es:List FV}{l:List MapEntry}(h:All2 (ERep w S ki.agg ki.ck z) es l) :
  (Instr.findKey kt kv l).run P w'=.ok (fnd k es l 0) w':=by
 have hask:=qkp (w':=w') (i:=0) hc hk hv h;rcases qgm hc with⟨fs,h1,h2,h3,h4⟩ | ⟨d,c,h1,_,h2,h3,h4⟩
 ·simp only[Instr.findKey,Sem.run_bind,run_underlying h1,Result.andThen_ok];cases h with
  |nil=>simp[Instr.findNow,fnd]
  |cons hh ht =>
   have:∀a b,Instr.sameNow (.struct fs) a b=none:=λa b=>by cases a <;> cases b <;> rfl
   simp only[Instr.findNow,this];exact hask
 ·rw[h2,h3]at hk h;exact MapKept.run_findKey h1 (qkq h1 h4 hk hv h)
theorem q9v{kag:Bool}{ks:List CK}{z k:FV}:∀ {es:List FV} {l:List MapEntry} {i:Nat},All2 (ERep w S kag ks z) es l ->
  (fnd k es l i=none/\mhas es k=false/\(∀y,mgetD es k y=y)/\(∀e,e∈es->keq k (entKey e)=false)) \/
  ∃j x e,fnd k es l i=some (i+j,e.val)/\es[j]?=some x/\l[j]?=some e/\ERep w S kag ks z x e/\keq k (entKey x)=true/\mhas es k=true/\(∀y,mgetD es k y=q57 x)/\∀y c,mborn es k c=entBorn x /\
   mput es k y c=es.set j (.agg [k,y,.int .i64 (entBorn x)])/\ment es k y c=es.set j (.agg [k,q57 x,.int .i64 (entBorn x)])/\mdel es k=es.eraseIdx j
 |_,_,i,.nil=>.inl ⟨rfl,rfl,λ_=>rfl,λ_ h=>by simp at h⟩
 |_,_,i,.cons (x:=x) (y:=e) (xs:=es) (ys:=l) h t=>by
  cases hk:keq k (entKey x)with
  |true =>
   refine .inr ⟨0,x,e,by simp[fnd,hk],rfl,rfl,h,hk,by simp[mhas,hk],λy=>by simp[mgetD,hk],λy c=>?_⟩;simp[mborn,mput,ment,mdel,hk]
  |false =>
   rcases q9v (k:=k) (i:=i+1) t with⟨a,b,c,d⟩ | ⟨j,x',e',a,b,c,d,f,g,p,q⟩
   ·refine .inl ⟨by simp[fnd,hk,a],by simpa[mhas,hk]using b,λy=>by simp[mgetD,hk,c y],λe he=>?_⟩;rcases Ar.1 he with rfl | he
    ·exact hk
    ·exact d e he
   ·refine .inr ⟨j+1,x',e',by simp[fnd,hk,a];omega,by simpa using b,by simpa using c,d,f,by simp[mhas]at g ⊢;exact .inr g,λy=>by simp[mgetD,hk,p y],λy c=>?_⟩;obtain⟨q1,q2,q3,q4⟩:=q y c;simp[mborn,mput,ment,mdel,hk,q1,q2,q3,q4]
theorem qbu{k:FV}:∀ {es:List FV},(∀e,e∈es->keq k (entKey e)=false)->∀y c,mput es k y c=es++[.agg [k,y,.int .i64 c]]/\ment es k y c=es++[.agg [k,y,.int .i64 c]]/\mborn es k c=c/\mdel es k=es
 |[],_,y,c=>by simp[mput,ment,mborn,mdel]
 |e::es,h,y,c=>by
  have h1:=h e (by simp);obtain⟨q1,q2,q3,q4⟩:=qbu (es:=es) (λe' he'=>h e' (AA _ he')) y c;simp[mput,ment,mborn,mdel,h1,q1,q2,q3,q4]
theorem All2.set{α β:Type}{R:α->β->Prop}{xs:List α}{ys:List β}(h:All2 R xs ys){x:α}{y:β}(hr:R x y):∀j,All2 R (xs.set j x) (ys.set j y):=by
 induction h with
 |nil=>intro j;simp;exact .nil
 |cons h t ih =>
  intro j;cases j with
  |zero=>exact .cons hr t
  |succ j=>exact .cons h (ih j)
theorem All2.erase{α β:Type}{R:α->β->Prop}{xs:List α}{ys:List β}(h:All2 R xs ys):∀j,All2 R (xs.eraseIdx j) (ys.eraseIdx j):=by
 induction h with
 |nil=>intro j;simp;exact .nil
 |cons h t ih =>
  intro j;cases j with
  |zero=>exact t
  |succ j=>exact .cons h (ih j)
theorem qgp(arr:Array MapEntry)(j:Nat)(e:MapEntry)(f:MapEntry->MapEntry)(h:arr.toList[j]?=some e):(arr.modify j f).toList=arr.toList.set j (f e):=by
 apply List.ext_getElem?;intro i;simp only[By,Array.getElem?_modify,Fb];by_cases hij:j=i
 ·subst hij;have hlt:=(Ao.1 h).1;simp only[By]at h;simp at hlt;rw[Bp hlt]at h;simp only[AH]at h;simp[hlt,h]
 ·simp[hij]
theorem qkr{kag:Bool}{ks:List CK}{z:FV}{b:Int}{y:FV}{v:Value}(hy:q3a z y=true)(hv:FRep w S y v):∀ {es:List FV} {l:List MapEntry},All2 (ERep w S kag ks z) es l->q5t es b=true ->
  ∃j e,l.findIdx? (λe=>(e.born:Int)==b)=some j/\l[j]?=some e/\All2 (ERep w S kag ks z) (msetB es b y) (l.set j { e with val:=v })
 |_,_,.nil,h=>by simp[q5t]at h
 |_,_,.cons (x:=x) (y:=e) (xs:=es) (ys:=l) h t,hb=>by
  obtain⟨h1,h2,h3,h4,h5⟩:=h.key;cases hk:((e.born:Int)==b)with
  |true =>
   refine⟨0,e,by simp[List.findIdx?_cons,hk],rfl,?_⟩;simp only[msetB,h5,hk,Ac,List.set_cons_zero];exact .cons ⟨_,_,rfl,h1,hy,h2,hv⟩ t
  |false =>
   have hb':q5t es b=true:=by simpa[q5t,h5,hk]using hb
   obtain⟨j,e',q1,q2,q3⟩:=qkr hy hv t hb';refine⟨j+1,e',by simp[List.findIdx?_cons,hk,q1],by simpa using q2,?_⟩;simp only[msetB,h5,hk,Ab,List.set_cons_succ];exact .cons h q3
theorem qks{k z:FV}{c:Int}:∀ {es:List FV} (k':FV),(∀k2,keq k k2=true->keq k' k2=keq k' k)->mgetD (ment es k z c) k' z=mgetD es k' z
 |[],k',_=>by
  simp only[ment,mgetD,entKey,q57];cases keq k' k <;> rfl
 |e::es,k',h=>by
  have ih:=qks (es:=es) (c:=c) (z:=z) k' h;simp only[ment];cases hk:keq k (entKey e)with
  |true =>
   simp only[Ac,mgetD,entKey,q57];have:=h _ hk;simp only[entKey]at this;rw[this]
  |false=>simp only[Ab,mgetD,ih]
end
section
variable {E:Env} {call:FuncId->List FV->Res} {X:Cx} {M:Mem} {a:Act} {w:World} {γ:Nat->Gh} {S:Nat->Prop} {us:List (Key×Ent)} {o:Oper}
theorem qgq{k k2 k':FV}(h:keq k k2=true):keq k' k2=keq k' k:=by
 have one:∀ {a b:FV},keq1 a b=true->∀c,keq1 c b=keq1 c a:=by
  intro a b h c;cases a <;> cases b <;> simp only[keq1,Br,Bu]at h
  ·subst h;cases c <;> rfl
  ·subst h;cases c <;> rfl
  ·cases c <;> simp[keq1,h]
 have all:∀ {as bs:List FV},keqs as bs=true->∀cs,keqs cs bs=keqs cs as:=by
  intro as
  induction as with
  |nil=>intro bs h cs;cases bs <;> simp_all[keqs]
  |cons a as ih =>
   intro bs h cs;cases bs with
   |nil=>simp[keqs]at h
   |cons b bs =>
    simp only[keqs,Ai]at h;cases cs with
    |nil=>rfl
    |cons c cs=>simp only[keqs,one h.1 c,ih h.2 cs]
 exact all h _
theorem gets_ty'{t:TypeId}{f:TyI->RT}(h:Gets (ty E t f) M us):∃i,E.ty t=some i/\Gets (f i) M us:=by
 unfold ty at h;cases hi:E.ty t with
 |none=>rw[hi]at h;exact(qh h).elim
 |some i=>rw[hi]at h;exact⟨i,rfl,h⟩
theorem qkt{t:TypeId}{f:TyI->TyI->RT}(hE:q15 E)(h:Gets (mapTy E t f) M us) :
  ∃kt et ki ei inf d z,E.P.underlying t=some (.map kt et)/\chkKey E.P kt ki=true/\TyOk E.P et ei inf d z/\Gets (f ki ei) M us:=by
 unfold mapTy at h;obtain⟨i,hi,h⟩:=gets_ty' h;have hm:=hE.mapk t i hi;split at h
 ·rename_i h1 h2;obtain⟨ki,hki,h⟩:=gets_ty' h;obtain⟨ei,hei,h⟩:=gets_ty' h;obtain⟨inf,d,z,hT⟩:=q8q (hE.ty _ _ hei);simp only[chkMap,h1,h2,hki,Ai]at hm;obtain⟨m1,m2⟩:=hm;split at m1
  ·rename_i kt et hu;simp only[Ai]at m1;have e1:=Aw m1.1;have e2:=Aw m1.2;refine⟨kt,et,ki,ei,inf,d,z,hu,?_,?_,h⟩
   ·rw[e1];exact m2
   ·rw[e2];exact hT
  ·simp at m1
 ·exact(qh h).elim
theorem SRep.mp_inv{hd:Nat->Option Ent}{id:Nat}{v:Value}{kag:Bool}{ks:List CK}{z:FV}(h:SRep w S γ hd (.mp id) v)(he:hd id=some (.mapH kag ks z)):v=.map (some (γ id).blk):=by
 cases h with
 |mp h _=>rfl
 |tomb hs h=>simp[SV.refId]at hs;subst hs;rw[he]at h;cases h
theorem qar{t:TypeId}{m:SV}{mv:Value}{f:Nat->TyI->Bool->List CK->FV->RT}(hE:q15 E)(hm:SRep w S γ (hdOf M) m mv)(h:Gets (q71 E t m f) M us) :
  ∃id kt et ki ei inf d z,m=.mp id/\mv=.map (some (γ id).blk)/\hdOf M id=some (.mapH ki.agg ki.ck ei.q1g)/\E.P.underlying t=some (.map kt et)/\chkKey E.P kt ki=true/\TyOk E.P et ei inf d z /\
   Gets (f id ei ki.agg ki.ck ei.q1g) M us:=by
 unfold q71 at h;obtain⟨kt,et,ki,ei,inf,d,z,h1,h2,h3,h⟩:=qkt hE h;split at h
 ·rename_i id _h;obtain⟨e,he,h⟩:=q2y h;split at h
  ·obtain⟨hb,h⟩:=q16 h;obtain⟨rfl,rfl,rfl⟩:=qfw hb;exact⟨id,kt,et,ki,ei,inf,d,z,rfl,hm.mp_inv he,he,h1,h2,h3,h⟩
  ·exact(qh h).elim
 ·exact(qh h).elim
theorem q4t.frep{us:List (Key×Ent)}{s:SV}{x:FV}(hz:q4t M us s x)(hf:qw M us)(h:Rel X (us++M) a w γ S){v:Value}(hv:SRep w S γ (hdOf (us++M)) s v):FRep w S x v:=by
 obtain⟨h1,h2⟩:=hz.rep hf h hv;rcases hz with⟨cs,xs,rfl,rfl,h3,h4⟩ | ⟨q1,q2⟩
 ·obtain⟨vs,rfl,hl,hr⟩:=hv.qan;refine .ofCells (by rw[hl,h3]) λj c hj=>?_;obtain⟨u,q1,q2,_⟩:=h2 j c hj;exact⟨u,q1,q2⟩
 ·exact(q2.rep hf h hv).1
theorem gets_keyOf'(h:Rel X M a w γ S){kag:Bool}{ks:List CK}{s:SV}{v:Value}(hs:SRep w S γ (hdOf M) s v){f:FV->RT}(hg:Gets (keyOf' kag ks s f) M us):∃k,q2m kag ks k=true/\FRep w S k v/\Gets (f k) M us:=by
 unfold keyOf' at hg;obtain⟨x,fz,h1,h2,hg⟩:=qe3 hg;split at hg
 ·obtain⟨hb,hg⟩:=q16 hg;exact⟨x,hb,h2.frep h1 h hs,hg⟩
 ·exact(qh hg).elim
theorem q9w{id c:Nat}{f:List FV->Int->RT}(hg:Gets (q5u id c f) M us):∃es clk,Mem.get (.cell id c) M=some (.map es clk)/\Gets (f es clk) M us:=by
 unfold q5u at hg;obtain⟨e,he,hg⟩:=q6u hg;split at hg
 ·exact⟨_,_,he,hg⟩
 ·exact(qh hg).elim
theorem valIs_inv{z v:FV}(h:q3a z v=true):v.isAgg=z.isAgg/\v.cells.length=z.cells.length/\∀c,c∈v.cells->c.flat=true:=by
 simp only[q3a,Ai,Au]at h;refine⟨?_,Aw h.1.2,h.2⟩;have:=h.1.1;cases hz:z.isAgg <;> cases hv:v.isAgg <;> simp_all
theorem qku{t:TypeId}{ti:TyI}{inf:TypeInfo}{d:TypeDesc}{z:Value}(hT:TyOk E.P t ti inf d z){x:FV}{v:Value}(hx:q3a ti.q1g x=true)(hv:FRep w S x v){f:SV->RT}(hg:Gets (q7x ti [x] 0 0 f) M us) :
  ∃s,SRep w S γ (hdOf M) s v/\Gets (f s) M us:=by
 obtain⟨x1,x2,x3⟩:=valIs_inv hx;rw[hT.zeroCells,TyI.q2c,Aa]at x2;unfold q7x at hg;cases ha:ti.agg with
 |true =>
  rw[ha]at hg;obtain⟨ss,h1,h2,hg2⟩:=qgr hg;have hag:x.isAgg=true:=by rw[x1];simp[TyI.q1g,ha,FV.isAgg]
  cases x <;> simp only[FV.isAgg,Br]at hag;rename_i cs;simp only[FV.cells]at x2;cases hv with
  |agg _ vs hs h =>
   refine⟨.agg ss,.agg (by rw[hs,x2,h1]) λj s hj=>?_,hg2⟩;obtain⟨_,e,h3,h4⟩:=h2 j s hj;simp only[at',Aj,Ae,FV.cells,AJ]at h3;exact h4 _ _ _ _ _ (h j e h3)
 |false =>
  rw[ha]at hg;obtain⟨k,hk,_⟩:=hT.one ha;simp only[Ab,hk]at hg;obtain⟨e,s,h1,h2,h3,hg⟩:=qgs hg;have hag:x.isAgg=false:=by
   rw[x1];simp only[TyI.q1g,ha,TyI.q2c,hk];cases k <;> rfl
  have hc:x.cells=[x]:=by cases x <;> first | rfl | simp[FV.isAgg]at hag
  simp only[at',Aj,Ae,hc,AH]at h1;subst h1;exact⟨s,h3 _ _ _ _ _ hv,hg⟩
theorem qgt{t:TypeId}{ti:TyI}{inf:TypeInfo}{d:TypeDesc}{z:Value}(hT:TyOk E.P t ti inf d z):FRep w S ti.q1g z/\q3a ti.q1g ti.q1g=true:=by
 have hfl:∀c,c∈ti.q2c->c.flat=true:=λc hc=>by
  obtain⟨j,hj⟩:=Bt.1 hc;simp only[TyI.q2c,Bq,BX]at hj;obtain⟨k,hk,rfl⟩:=hj;obtain⟨v,h1,h2,h3,h4⟩:=q9f (w:=w) (S:=S) hT.q2c j k hk;cases k <;> try rfl
  cases h2;exact h4
 refine⟨?_,?_⟩
 ·have hz:=qai hT.q2c;cases ha:ti.agg with
  |true =>
   have hza:=hT.zagg;rw[ha]at hza;cases z <;> simp only[isAgg',Bool.true_eq_false]at hza;rename_i vs;rw[TyI.q1g,ha,Ac];refine .ofCells (by simpa[TyI.q2c,Value.cells]using hz) λj c hj=>?_;simp only[TyI.q2c,Bq,BX]at hj;obtain⟨k,hk,rfl⟩:=hj;obtain⟨v,h1,h2,_⟩:=q9f (w:=w) (S:=S) hT.q2c j k hk;exact⟨v,by simpa[Value.cells]using h1,h2⟩
  |false =>
   obtain⟨k,hk,_⟩:=hT.one ha;obtain⟨v,h1,h2,_,h4⟩:=q9f (w:=w) (S:=S) hT.q2c 0 k (by simp[hk]);have hza:=hT.zagg;rw[ha]at hza;have hzc:z.cells=#[z]:=by cases z <;> first | rfl | simp[isAgg']at hza
   rw[hzc]at h1;simp at h1;subst h1;simpa[TyI.q1g,ha,TyI.q2c,hk]using h2
 ·simp only[q3a,Ai,Au];refine⟨⟨?_,by simp⟩,λc hc=>hfl c (by rwa[hT.zeroCells]at hc)⟩;cases h:ti.q1g.isAgg <;> simp
theorem qas{id:Nat}{kag:Bool}{ks:List CK}{z:FV}(h:Rel X M a w γ S)(he:hdOf M id=some (.mapH kag ks z)) :
  ∃es clk es' clk',Mem.get (.cell id 0) M=some (.map es clk)/\Mem.get (.cell id 1) M=some (.map es' clk')/\(∀k,mgetD es' k z=mgetD es k z)/\MRep w S (γ id) kag ks z es clk:=(h.head id _ he).2
theorem mget_rep{kag:Bool}{ks:List CK}{z k:FV}{zv:Value}{es:List FV}{l:List MapEntry}(hm:All2 (ERep w S kag ks z) es l)(hz:FRep w S z zv)(hzz:q3a z z=true) :
  q3a z (mgetD es k z)=true/\∃v,FRep w S (mgetD es k z) v/\(match fnd k es l 0 with | some (_,v)=>v | none=>zv)=v/\mhas es k=(fnd k es l 0).isSome:=by
 rcases q9v (k:=k) (i:=0) hm with⟨a,b,c,_⟩ | ⟨j,x,e,a,_,_,d,_,g,p,_⟩
 ·rw[c z,a,b];exact⟨hzz,zv,hz,rfl,rfl⟩
 ·rw[p z,a,g];obtain⟨_,_,q1,q2,_⟩:=d.key;exact⟨q1,e.val,q2,rfl,rfl⟩
theorem run_lookup'{t kt et:TypeId}{ki ei:TyI}{inf:TypeInfo}{d:TypeDesc}{zv:Value}(hu:E.P.underlying t=some (.map kt et))(hc:chkKey E.P kt ki=true)(hT:TyOk E.P et ei inf d zv){b:Nat}{arr:Array MapEntry}{c:Nat}
  (hb:w.heap[b]?=some (.map arr c)) {k:FV} {kv:Value} (hk:q2m ki.agg ki.ck k=true) (hkv:FRep w S k kv) {es:List FV} (hm:All2 (ERep w S ki.agg ki.ck ei.q1g) es arr.toList) (ok:Bool) :
  ∃v,(Instr.lookup t (.map (some b)) kv ok).run E.P w=.ok (if ok then .tuple #[v,.bool (mhas es k)]else v) w/\FRep w S (mgetD es k ei.q1g) v/\q3a ei.q1g (mgetD es k ei.q1g)=true:=by
 obtain⟨hz,hzz⟩:=qgt (w:=w) (S:=S) hT;obtain⟨h1,v,h2,h3,h4⟩:=mget_rep (k:=k) hm hz hzz;refine⟨v,?_,h2,h1⟩;have hf:=run_findKey' (w':=w) hc hk hkv hm;have hck:=run_checkKey' (w':=w) arr.isEmpty hc hk hkv;simp only[Instr.lookup,Sem.run_bind,run_underlying hu,Result.andThen_ok,MapKept.run_getObj_map hb,Sem.run_pure,hck,hf];cases hfn:fnd k es arr.toList 0 with
 |none =>
  rw[hfn]at h3 h4;simp only[Option.isSome_none]at h4;simp only at h3;subst h3;simp[hT.runZ,h4]
 |some p =>
  obtain⟨j,u⟩:=p;rw[hfn]at h3 h4;simp only[Option.isSome_some]at h4;simp only at h3;subst h3;simp[h4]
theorem qro{t:TypeId}{x y:Operand}{ok:Bool}(hE:q15 E)(h:Rel X M a w γ S)(hd:∀d,o.dst=some d->X.Dst d)(hop:o.op=.lookup t x y ok)(hg0:Gets (rtOp E call o) M us):Goal E.P X M o a w us:=by
 unfold rtOp at hg0;simp only[hop]at hg0;obtain⟨m,hm,hg⟩:=q1k h hg0;obtain⟨ks,hks,hg⟩:=q1k h hg;obtain⟨id,kt,et,ki,ei,inf,d,z,rfl,hmv,he,hu,hc,hT,hg⟩:=qar hE hm hg;obtain⟨k,hk,hkv,hg⟩:=gets_keyOf' h hks hg;obtain⟨es,clk,es',clk',c0,c1,hview,arr,c,hb,rfl,_,_,hall⟩:=qas h he;obtain⟨v,hrun,hv,hval⟩:=run_lookup' hu hc hT hb hk hkv hall ok;cases ok with
 |false =>
  obtain⟨es2,clk2,q,hg⟩:=q9w hg;rw[c1]at q;cases q;rw[hview k]at hg;obtain⟨s,hs,hg⟩:=qku hT hval hv hg;exact .q1i (v:=v) (by simp only[Br,BH]at hrun;simp[execOp,hop,hmv,hrun]) (q1f h hd hs hg)
 |true =>
  obtain⟨es2,clk2,q,hg⟩:=q9w hg;rw[c0]at q;cases q;obtain⟨s,hs,hg⟩:=qku hT hval hv hg;refine .q1i (v:=.tuple #[v,.bool (mhas es k)]) (by simp only[AW]at hrun;simp[execOp,hop,hmv,hrun]) (q1f h hd (.tup (by simp) λj s' hj=>?_) hg)
  match j with
  |0=>simp at hj;subst hj;exact hs
  |1=>simp at hj;subst hj;exact .fv (.bool _)
  |j+2=>simp at hj
end
end Rf
end
section
namespace Rf
open Go
section
variable {w:World} {S:Nat->Prop}
theorem key_one{kag:Bool}{ks:List CK}{x y:FV}{v:Value}(hx:q2m kag ks x=true)(hy:q2m kag ks y=true)(hv:FRep w S x v)(hu:FRep w S y v):x=y:=by
 cases kag with
 |false =>
  obtain⟨c,rfl,h1,_⟩:=q70 hx;obtain⟨c',hc,h2,_⟩:=q70 hy;cases hc;exact qgo h1 h2 hv hu
 |true =>
  obtain⟨cs,rfl,h1⟩:=q8r hx;obtain⟨ds,rfl,h2⟩:=q8r hy;obtain⟨vs,rfl,c1⟩:=qbt hv;obtain⟨us,hu',c2⟩:=qbt hu;cases hu';have key:∀ {ks:List CK} {cs ds:List FV} {j:Nat},kfits ks cs=true->kfits ks ds=true->q7w w S cs j vs->q7w w S ds j vs->cs=ds:=by
   intro ks
   induction ks with
   |nil=>intro cs ds j h1 h2 _ _;cases cs <;> cases ds <;> simp_all[kfits]
   |cons c ks ih =>
    intro cs ds j h1 h2 q1 q2;cases cs with
    |nil=>simp[kfits]at h1
    |cons x cs =>
     cases ds with
     |nil=>simp[kfits]at h2
     |cons y ds =>
      simp only[kfits,Ai]at h1 h2;obtain⟨v,a1,a2⟩:=q1 0 x rfl;obtain⟨u,b1,b2⟩:=q2 0 y rfl;rw[a1]at b1;cases b1;rw[qgo h1.1 h2.1 a2 b2,ih h1.2 h2.2 q1.tail q2.tail]
  rw[key h1 h2 c1 c2]
theorem All2.getR'{α β:Type}{R:α->β->Prop}{xs:List α}{ys:List β}(h:All2 R xs ys):∀(j:Nat) (y:β),ys[j]?=some y->∃x,xs[j]?=some x/\R x y:=by
 induction h with
 |nil=>intro j x hj;simp at hj
 |cons h _ ih =>
  intro j x hj;cases j with
  |zero=>simp at hj;subst hj;exact⟨_,rfl,h⟩
  |succ j=>simpa using ih j x (by simpa using hj)
theorem qkv{kag:Bool}{ks:List CK}{z k:FV}{kv:Value}(hk:q2m kag ks k=true)(hkv:FRep w S k kv){es:List FV}{l:List MapEntry}(h:All2 (ERep w S kag ks z) es l)(hn:∀e,e∈es->keq k (entKey e)=false) :
  ∀x∈l,x.key≠kv:=by
 intro x hx he;obtain⟨j,hj⟩:=Bt.1 hx;obtain⟨e,h1,h2⟩:=h.getR' j x hj;obtain⟨q1,q2,_⟩:=h2.key;rw[he]at q2;have:=hn e (AS h1);rw[(qap hk q1).2 (key_one hk q1 hkv q2)]at this;cases this
theorem But.setBlock(w:World)(b:Nat)(ob:Obj):But b w { w with heap:=w.heap.setIfInBounds b ob } :=
 ⟨by simp,λk hk _=>by simp only[Array.getElem?_setIfInBounds];rw[if_neg (BO hk)],rfl,rfl,rfl⟩
end
section
variable {E:Env} {call:FuncId->List FV->Res} {X:Cx} {M:Mem} {a:Act} {w:World} {γ:Nat->Gh} {S:Nat->Prop} {us:List (Key×Ent)} {o:Oper}
theorem Rel.qkw(h:Rel X M a w γ S){id:Nat}{kag:Bool}{ks:List CK}{z:FV}(he:hdOf M id=some (.mapH kag ks z)){M':Mem}(hM:q43 id M M')(he':hdOf M' id=some (.mapH kag ks z))
  {es es2:List FV} {clk2:Int} {arr:Array MapEntry} {c:Nat} (g0:Mem.get (.cell id 0) M'=some (.map es c)) (g1:Mem.get (.cell id 1) M'=some (.map es2 clk2)) (hv:∀k,mgetD es2 k z=mgetD es k z)
  (hs:MapKept.Stamped arr c) (hzz:q3a z z=true) (hall:All2 (ERep w S kag ks z) es arr.toList):Rel X M' a { w with heap:=w.heap.setIfInBounds (γ id).blk (.map arr c) } γ S:=by
 have own:=h.own id _ he trivial;have hb:=But.setBlock w (γ id).blk (.map arr c);have hw:=h.toHRel.q8m hb own.2.1;have hn:=(h.head id _ he).1;refine h.change hM he trivial he' ⟨rfl,rfl,by simp⟩ hb (λhh=>⟨hn,es,c,es2,clk2,g0,g1,hv,arr,c,?_,rfl,hs,hzz,hall.mono λ_ _ q=>q.mono hw (λ_ h=>h)⟩) trivial;simp[own.1]
theorem qrp{id:Nat}{e0 e1:Ent}{M:Mem}:q43 id M ((.cell id 0,e0)::(.cell id 1,e1)::M):=by
 refine⟨λi hi=>?_,λi j hi=>?_,λt=>?_⟩
 ·rw[hdOf,hdOf,Mem.qj,if_neg (by simp),Mem.qj,if_neg (by simp)]
 ·rw[Mem.qj,if_neg (by simp[hi]),Mem.qj,if_neg (by simp[hi])]
 ·rw[Mem.qj,if_neg (by simp),Mem.qj,if_neg (by simp)]
theorem qrq{id:Nat}{e0:Ent}{M:Mem}:q43 id M ((.cell id 0,e0)::M):=by
 refine⟨λi hi=>?_,λi j hi=>?_,λt=>?_⟩
 ·rw[hdOf,hdOf,Mem.qj,if_neg (by simp)]
 ·rw[Mem.qj,if_neg (by simp[hi])]
 ·rw[Mem.qj,if_neg (by simp)]
theorem Rel.qgu(h:Rel X M a w γ S){id:Nat}{kag:Bool}{ks:List CK}{z:FV}(he:hdOf M id=some (.mapH kag ks z)){es:List FV}{arr:Array MapEntry}{c:Nat}{clk:Int}(hclk:clk=c)
  (hs:MapKept.Stamped arr c) (hzz:q3a z z=true) (hall:All2 (ERep w S kag ks z) es arr.toList):Rel X (q3v id es clk M) a { w with heap:=w.heap.setIfInBounds (γ id).blk (.map arr c) } γ S:=by
 subst hclk;refine h.qkw (M':=(.cell id 0,.map es c)::(.cell id 1,.map es c)::M) he qrp (by rw[hdOf,Mem.qj,if_neg (by simp),Mem.qj,if_neg (by simp)];exact he) (es:=es) (es2:=es) (clk2:=c) (by rw[Mem.qj,if_pos rfl]) (by rw[Mem.qj,if_neg (by simp),Mem.qj,if_pos rfl]) (λ_=>rfl) hs hzz hall
theorem qkx(id:Nat)(es:List FV)(clk:Int)(us:List (Key×Ent)):q3v id es clk us++M=q3v id es clk (us++M):=rfl
theorem qw.mapH{fz:List (Key×Ent)}(h:qw M fz){id:Nat}{kag:Bool}{ks:List CK}{z:FV}(he:hdOf M id=some (.mapH kag ks z)) :
  hdOf (fz++M) id=some (.mapH kag ks z)/\∀j,Mem.get (.cell id j) (fz++M)=Mem.get (.cell id j) M:=by
 refine⟨?_,λj=>?_⟩
 ·rcases h.get (.head id)with⟨q,_⟩ | ⟨id',s,xs,q1,q2,q3⟩
  ·rw[hdOf,q];exact he
  ·cases q1;rcases q3 with q3 | q3 <;> rw[he]at q3 <;> cases q3
 ·rcases h.get (.cell id j)with⟨q,_⟩ | ⟨id',s,xs,q1,q2,q3⟩
  ·exact q
  ·cases q1
theorem mput_rep{kag:Bool}{ks:List CK}{z k y:FV}{kv yv:Value}{es:List FV}{arr:Array MapEntry}{c:Nat}(hall:All2 (ERep w S kag ks z) es arr.toList)(hs:MapKept.Stamped arr c)(hk:q2m kag ks k=true)(hkv:FRep w S k kv)
  (hy:q3a z y=true) (hyv:FRep w S y yv) :
  ∃arr' c',(match fnd k es arr.toList 0 with | some (i,_)=>(arr.modify i λe=>{ e with key:=kv,val:=yv },c) | none=>(arr.push { key:=kv,val:=yv,born:=c },c+1))=(arr',c') /\
   mclk es k c=(c':Int)/\MapKept.Stamped arr' c'/\All2 (ERep w S kag ks z) (mput es k y c) arr'.toList:=by
 rcases q9v (k:=k) (i:=0) hall with⟨h1,h2,_,h4⟩ | ⟨j,x,e,h1,h2,h3,h4,h5,h6,_,h8⟩
 ·rw[h1];refine⟨_,_,rfl,by simp[mclk,h2],MapKept.stamped_push hs (qkv hk hkv hall h4),?_⟩;rw[(qbu h4 y c).1,Array.toList_push];exact hall.app (.cons ⟨k,y,rfl,hk,hy,hkv,hyv⟩ .nil)
 ·rw[h1];obtain⟨q1,q2,q3,q4,q5⟩:=h4.key;have hkx:k=entKey x:=(qap hk q1).1 h5;have hkk:e.key=kv:=by rw[<- hkx]at q2;exact(qgn hk q2 hkv).1
  simp only[AJ];refine⟨_,_,rfl,by simp[mclk,h6],MapKept.stamped_modify hs _ _ (λ_ _=>rfl) (λe' _ he'=>?_),?_⟩
  ·have:arr[j]?=some e:=by simpa using h3
   rw[this]at he';cases he';exact hkk.symm
  ·rw[(h8 y c).2.1,qgp arr j e _ h3];exact hall.set ⟨k,y,by rw[q5],hk,hy,hkv,hyv⟩ j
theorem qky{t:TypeId}{m k x:Operand}(hE:q15 E)(h:Rel X M a w γ S)(hop:o.op=.mapUpdate t m k x\/o.op=.insert t m k x)(hg0:Gets (rtOp E call o) M us):Goal E.P X M o a w us:=by
 have hg1:Gets (opd m λm=>opd k λk=>opd x λx=>q71 E t m λid _ kag ks z=>keyOf' kag ks k λk=>frz x λy us =>
  bif q3a z y&&o.dst.isNone then q5u id 0 λes clk=>.ret (q3v id (mput es k y clk) (mclk es k clk) us)else .fail) M us:=by
  rcases hop with hop | hop <;> (unfold rtOp at hg0;simp only[hop]at hg0;exact hg0)
 clear hg0;have hex:∀w',(Instr.mapUpdate t (a.eval m) (a.eval k) (a.eval x)).run E.P w=.ok () w'->(execOp a.eval o).run E.P w=.ok .skip w':=λw' hw=>by
  rcases hop with hop | hop <;> simp[execOp,hop,hw]
 obtain⟨sm,hm,hg⟩:=q1k h hg1;obtain⟨sk,hks,hg⟩:=q1k h hg;obtain⟨sx,hx,hg⟩:=q1k h hg;obtain⟨id,kt,et,ki,ei,inf,d,z,rfl,hmv,he,hu,hc,hT,hg⟩:=qar hE hm hg;obtain⟨kf,hk,hkv,hg⟩:=gets_keyOf' h hks hg;obtain⟨y,fz,hfz,hyo,hg⟩:=qe3 hg;obtain⟨hb,hg⟩:=q16 hg;simp only[Ai,FM]at hb;obtain⟨hval,hdst⟩:=hb;obtain⟨es,clk,c0,hg⟩:=q9w hg;have hus:=q2w hg;subst hus;obtain⟨S',k1,_,hR⟩:=h.q8p hfz;obtain⟨m1,m2⟩:=hfz.mapH he;obtain⟨es1,clk1,es',clk',d0,d1,_,arr,c,hbk,hclk,hst,hzz,hall⟩:=qas hR m1;rw[m2 0,c0]at d0;cases d0;have hkv':FRep w S' kf (a.eval k):=hkv.mono (λ_ _=>rfl) k1;have hyv:FRep w S' y (a.eval x):=hyo.frep hfz hR (hx.mono (λ_ _=>rfl) k1 hfz.hdLe);obtain⟨arr',c',p1,p2,p3,p4⟩:=mput_rep hall hst hk hkv' hval hyv;have hf:=run_findKey' (w':=w) hc hk hkv' hall;have hck:=run_checkKey' (w':=w) false hc hk hkv';refine .skip (γ':=γ) (S':=S') (hex _ ?_) (by rw[hdst,qkx];exact hR.qgu m1 (by rw[hclk];exact p2) p3 hzz (by rw[hclk];exact p4));rw[hmv];simp only[Instr.mapUpdate,Sem.run_bind,run_underlying hu,Result.andThen_ok,MapKept.run_getObj_map hbk,hck,hf];rcases q9v (k:=kf) (i:=0) hall with⟨h1,h2,_,h4⟩ | ⟨j,x',e,h1,h2,h3,h4,h5,h6,_,h8⟩
 ·rw[h1]at p1 ⊢;cases p1;simp only[MapKept.run_setObj_map _ hbk]
 ·rw[h1]at p1 ⊢;simp only[AJ]at p1 ⊢;cases p1;obtain⟨q1,q2,_⟩:=h4.key;have hkx:kf=entKey x':=(qap hk q1).1 h5;rw[<- hkx]at q2;have hj:arr[j]?=some e:=by simpa using h3
  simp only[Sem.run_bind,hj,AD,Bg,qko hk q2 hkv',Result.andThen_ok,MapKept.run_setObj_map _ hbk]
theorem ment_rep{kag:Bool}{ks:List CK}{z k:FV}{kv zv:Value}{es:List FV}{arr:Array MapEntry}{c:Nat}(hall:All2 (ERep w S kag ks z) es arr.toList)(hs:MapKept.Stamped arr c)(hk:q2m kag ks k=true)(hkv:FRep w S k kv)
  (hzz:q3a z z=true) (hzv:FRep w S z zv) :
  ∃arr' c',(match fnd k es arr.toList 0 with | some (i,_)=>(arr.modify i λe=>{ e with key:=kv },c) | none=>(arr.push { key:=kv,val:=zv,born:=c },c+1))=(arr',c') /\
   mclk es k c=(c':Int)/\MapKept.Stamped arr' c'/\All2 (ERep w S kag ks z) (ment es k z c) arr'.toList:=by
 rcases q9v (k:=k) (i:=0) hall with⟨h1,h2,_,h4⟩ | ⟨j,x,e,h1,h2,h3,h4,h5,h6,_,h8⟩
 ·rw[h1];refine⟨_,_,rfl,by simp[mclk,h2],MapKept.stamped_push hs (qkv hk hkv hall h4),?_⟩;rw[(qbu h4 z c).2.1,Array.toList_push];exact hall.app (.cons ⟨k,z,rfl,hk,hzz,hkv,hzv⟩ .nil)
 ·rw[h1];obtain⟨q1,q2,q3,q4,q5⟩:=h4.key;have hkx:k=entKey x:=(qap hk q1).1 h5;have hkk:e.key=kv:=by rw[<- hkx]at q2;exact(qgn hk q2 hkv).1
  simp only[AJ];refine⟨_,_,rfl,by simp[mclk,h6],MapKept.stamped_modify hs _ _ (λ_ _=>rfl) (λe' _ he'=>?_),?_⟩
  ·have:arr[j]?=some e:=by simpa using h3
   rw[this]at he';cases he';exact hkk.symm
  ·rw[(h8 z c).2.2.1,qgp arr j e (λe=>{ e with key:=kv }) h3];have hr:ERep w S kag ks z (.agg [k,q57 x,.int .i64 (entBorn x)]) { e with key:=kv }:=⟨k,q57 x,by rw[q5],hk,q3,hkv,q4⟩;exact hall.set hr j
theorem qrr{t:TypeId}{m k:Operand}(hE:q15 E)(h:Rel X M a w γ S)(hd:∀d,o.dst=some d->X.Dst d)(hop:o.op=.mapEntry t m k)(hg0:Gets (rtOp E call o) M us):Goal E.P X M o a w us:=by
 unfold rtOp at hg0;simp only[hop]at hg0;obtain⟨sm,hm,hg⟩:=q1k h hg0;obtain⟨sk,hks,hg⟩:=q1k h hg;obtain⟨id,kt,et,ki,ei,inf,d,z,rfl,hmv,he,hu,hc,hT,hg⟩:=qar hE hm hg;obtain⟨kf,hk,hkv,hg⟩:=gets_keyOf' h hks hg;obtain⟨es,clk,c0,hg⟩:=q9w hg;split at hg
 ·rename_i dd hdst;have hus:=q2w hg;subst hus;obtain⟨es1,clk1,es',clk',d0,d1,hview,arr,c,hbk,rfl,hst,hzz,hall⟩:=qas h he;rw[c0]at d0;cases d0;obtain⟨hz,_⟩:=qgt (w:=w) (S:=S) hT;obtain⟨arr',c',p1,p2,p3,p4⟩:=ment_rep hall hst hk hkv hzz hz;have hR:=h.qkw he (M':=(.cell id 0,.map (ment es kf ei.q1g c) (mclk es kf c))::M) qrq (by rw[hdOf,Mem.qj,if_neg (by simp)];exact he) (es:=ment es kf ei.q1g c) (es2:=es') (clk2:=clk') (arr:=arr') (c:=c')
   (by rw[Mem.qj,if_pos rfl,p2]) (by rw[Mem.qj,if_neg (by simp)];exact d1) (λk'=>by rw[hview k',qks k' λk2 h2=>qgq h2]) p3 hzz p4
  have hf:=run_findKey' (w':=w) hc hk hkv hall;have hck:=run_checkKey' (w':=w) false hc hk hkv;have fin:∀v,(Instr.mapEntry t (.map (some (γ id).blk)) (a.eval k)).run E.P w=.ok (.tuple #[v,goInt (mborn es kf c)]) { w with heap:=w.heap.setIfInBounds (γ id).blk (.map arr' c') }->Goal E.P X M o a w
    ((.slot dd,.sv (.tup [.dead,.fv (.int .i64 (mborn es kf c))]))::[(.cell id 0,.map (ment es kf ei.q1g c) (mclk es kf c))]):=λv hv=>by
   refine .value (v:=.tuple #[v,goInt (mborn es kf c)]) (w':={ w with heap:=w.heap.setIfInBounds (γ id).blk (.map arr' c') }) (γ':=γ) (S':=S) (by simp[execOp,hop,hmv,hv]) ?_;rw[hdst];refine hR.put (hd dd hdst) (.tup (by simp) λj s hj=>?_)
   match j with
   |0=>simp at hj;subst hj;exact .dead
   |1=>simp at hj;subst hj;exact .fv (.int _ _)
   |j+2=>simp at hj
  rcases q9v (k:=kf) (i:=0) hall with⟨h1,h2,_,h4⟩ | ⟨j,x',e,h1,h2,h3,h4,h5,h6,_,h8⟩
  ·refine fin z ?_;rw[h1]at p1;cases p1;rw[(qbu h4 ei.q1g c).2.2.1];simp only[Instr.mapEntry,Sem.run_bind,run_underlying hu,Result.andThen_ok,MapKept.run_getObj_map hbk,hck,hf,h1,hT.runZ,MapKept.run_setObj_map _ hbk,Sem.run_pure]
  ·refine fin e.val ?_;rw[h1]at p1;simp only[AJ]at p1;cases p1;obtain⟨q1,q2,_,_,q5⟩:=h4.key;have hkx:kf=entKey x':=(qap hk q1).1 h5;rw[<- hkx]at q2;have hj:arr[j]?=some e:=by simpa using h3
   rw[(h8 ei.q1g c).1,q5];simp only[Instr.mapEntry,Sem.run_bind,run_underlying hu,Result.andThen_ok,MapKept.run_getObj_map hbk,hck,hf,h1,AJ,hj,AD,Bg,qko hk q2 hkv,MapKept.run_setObj_map _ hbk,Sem.run_pure]
 ·exact(qh hg).elim
theorem run_asInt{P:Program}(k:IntKind)(n:Int)(w:World):(Go.asInt (.int k n)).run P w=.ok n w:=rfl
theorem qrs{t:TypeId}{m s x:Operand}(hE:q15 E)(h:Rel X M a w γ S)(hop:o.op=.entryStore t m s x)(hg0:Gets (rtOp E call o) M us):Goal E.P X M o a w us:=by
 unfold rtOp at hg0;simp only[hop]at hg0;obtain⟨sm,hm,hg1⟩:=q1k h hg0;obtain⟨ss,hss,hg2⟩:=q1k h hg1;obtain⟨sx,hx,hg3⟩:=q1k h hg2;obtain⟨id,kt,et,ki,ei,inf,d,z,rfl,hmv,he,hu,hc,hT,hg⟩:=qar hE hm hg3;clear hg0 hg1 hg2 hg3;split at hg
 ·rename_i kk b;have hsv:=hss.q1n;obtain⟨y,fz,hfz,hyo,hg⟩:=qe3 hg;obtain⟨hb,hg⟩:=q16 hg;simp only[Ai,FM]at hb;obtain⟨hval,hdst⟩:=hb;obtain⟨es,clk,c0,hg⟩:=q9w hg;rcases q6y hg with⟨hhas,hg⟩ | ⟨_,hg⟩
  ·have hus:=q2w hg;subst hus;obtain⟨S',k1,_,hR⟩:=h.q8p hfz;obtain⟨m1,m2⟩:=hfz.mapH he;obtain⟨es1,clk1,es',clk',d0,d1,_,arr,c,hbk,hclk,hst,hzz,hall⟩:=qas hR m1;rw[m2 0,c0]at d0;cases d0;have hyv:FRep w S' y (a.eval x):=hyo.frep hfz hR (hx.mono (λ_ _=>rfl) k1 hfz.hdLe);obtain⟨j,e,p1,p2,p3⟩:=qkr hval hyv hall hhas;have hj:arr[j]?=some e:=by simpa using p2
   refine .skip (γ':=γ) (S':=S') (w':={ w with heap:=w.heap.setIfInBounds (γ id).blk (.map (arr.modify j λe=>{ e with val:=a.eval x }) c) }) ?_ (by
    rw[hdst,qkx];refine hR.qgu m1 hclk (MapKept.stamped_modify hst _ _ (λ_ _=>rfl) (λ_ _ _=>rfl)) hzz ?_
    rw[qgp arr j e _ p2];exact p3)
   have hfi:arr.findIdx? (λe=>(e.born:Int)==b)=some j:=by rw[<- p1,<- List.findIdx?_toArray,FN]
   have hrun:(Instr.entryStore t (.map (some (γ id).blk)) (.int kk b) (a.eval x)).run E.P w=.ok () { w with heap:=w.heap.setIfInBounds (γ id).blk (.map (arr.modify j λe=>{ e with val:=a.eval x }) c) }:=by
    simp only[Instr.entryStore,Sem.run_bind,Result.andThen_ok,MapKept.run_getObj_map hbk,run_asInt,hfi,MapKept.run_setObj_map _ hbk]
   simp[execOp,hop,hmv,hsv,hrun]
  ·exact(qh hg).elim
 ·exact(qh hg).elim
theorem qrt{t:TypeId}(hE:q15 E)(h:Rel X M a w γ S)(hd:∀d,o.dst=some d->X.Dst d)(hop:o.op=.makeMap t none)(hg0:Gets (rtOp E call o) M us):Goal E.P X M o a w us:=by
 unfold rtOp at hg0;simp only[hop]at hg0;obtain⟨kt,et,ki,ei,inf,d,z,hu,hc,hT,hg⟩:=qkt hE hg0;split at hg
 ·rename_i dd hdst;obtain⟨hf,hg⟩:=q7p hg;have hus:=q2w hg;subst hus;have hM:q43 dd M ((.head dd,.mapH ki.agg ki.ck ei.q1g)::q3v dd [] 0 M):=by
   refine⟨λi hi=>?_,λi j hi=>?_,λt=>?_⟩
   ·rw[hdOf,hdOf,Mem.qj,if_neg (by simpa using hi),q3v,Mem.qj,if_neg (by simp),Mem.qj,if_neg (by simp)]
   ·rw[Mem.qj,if_neg (by simp),q3v,Mem.qj,if_neg (by simp[hi]),Mem.qj,if_neg (by simp[hi])]
   ·rw[Mem.qj,if_neg (by simp),q3v,Mem.qj,if_neg (by simp),Mem.qj,if_neg (by simp)]
  have he:hdOf ((.head dd,.mapH ki.agg ki.ck ei.q1g)::q3v dd [] 0 M) dd=some (.mapH ki.agg ki.ck ei.q1g):=by rw[hdOf,Mem.qj,if_pos rfl]
  have hb:But w.heap.size w (w.alloc (.map #[] 0)):=But.alloc w _;have hS:¬ S w.heap.size:=λhq=>EV _ (h.keep.bound _ hq)
  have hR:=h.gain (g:=⟨w.heap.size,0,0,false⟩) hf hM he hb hS (λi e h1 h2 hq=>by have:=(h.own i e h1 h2).1;simp only at hq;omega) (by simp) (.inr h.keep.size) (λhh=>by
   refine⟨by rw[Gh.q32],[],0,[],0,by rw[Mem.qj,if_neg (by simp),q3v,Mem.qj,if_pos rfl],by rw[Mem.qj,if_neg (by simp),q3v,Mem.qj,if_neg (by simp),Mem.qj,if_pos rfl],λ_=>rfl,#[],0,by rw[Gh.q32];exact qdh w _,rfl,MapKept.stamped_empty 0,(qgt (w:=w) (S:=S) hT).2,.nil⟩)
  refine .value (v:=.map (some w.heap.size)) (w':=w.alloc (.map #[] 0)) (γ':=Gh.upd γ dd ⟨w.heap.size,0,0,false⟩) (S':=S) (by simp[execOp,hop,show(Instr.makeMap t none).run E.P w=.ok (.map (some w.heap.size)) (w.alloc (.map #[] 0)) from rfl]) ?_;rw[hdst]
  exact hR.put (hd dd hdst) (s:=.mp dd) (by
   have:=SRep.mp (w:=w.alloc (.map #[] 0)) (S:=S) (γ:=Gh.upd γ dd ⟨w.heap.size,0,0,false⟩) he rfl
   rwa[Gh.q32]at this)
 ·exact(qh hg).elim
theorem run_len_map{t kt et:TypeId}(hu:E.P.underlying t=some (.map kt et)){b:Nat}{arr:Array MapEntry}{c:Nat}(hb:w.heap[b]?=some (.map arr c))(ty:TypeId) :
  (Builtin.len_ #[t] ty #[.map (some b)]).run E.P w=.ok (goInt arr.size) w:=by
 simp[Builtin.len_,run_underlying hu,MapKept.run_getObj_map hb]
theorem qru{t:TypeId}{s1 s2:SV}{v1 v2:Value}(hE:q15 E)(h:Rel X M a w γ S)(hd:∀d,o.dst=some d->X.Dst d)(h1:SRep w S γ (hdOf M) s1 v1)(h2:SRep w S γ (hdOf M) s2 v2){ats:Array TypeId}{r:List TypeId}(hats:ats.toList=t::r)
  (hg:Gets (q71 E t s1 λid _ kag ks _=>keyOf' kag ks s2 λk=>q5u id 0 λes clk=>out o.dst .dead (q3v id (mdel es k) clk [])) M us)
  (run:∀w',(Builtin.delete_ ats o.type #[v1,v2]).run E.P w=.ok (.tuple #[]) w'->(execOp a.eval o).run E.P w=.ok (.value (.tuple #[])) w'):Goal E.P X M o a w us:=by
 obtain⟨id,kt,et,ki,ei,inf,d,z,rfl,rfl,he,hu,hc,hT,hg⟩:=qar hE h1 hg;obtain⟨kf,hk,hkv,hg⟩:=gets_keyOf' h h2 hg;obtain⟨es,clk,c0,hg⟩:=q9w hg;obtain⟨es1,clk1,es',clk',d0,d1,_,arr,c,hbk,hclk,hst,hzz,hall⟩:=qas h he;rw[c0]at d0;cases d0;have hf:=run_findKey' (w':=w) hc hk hkv hall;have hck:=run_checkKey' (w':=w) arr.isEmpty hc hk hkv;have hat0:ats[0]?=some t:=by rw[<- By,hats];rfl
 have go:∀arr',MapKept.Stamped arr' c->All2 (ERep w S ki.agg ki.ck ei.q1g) (mdel es kf) arr'.toList->(Builtin.delete_ ats o.type #[.map (some (γ id).blk),v2]).run E.P w=.ok (.tuple #[]) { w with heap:=w.heap.setIfInBounds (γ id).blk (.map arr' c) }->Goal E.P X M o a w us:=λarr' q1 q2 q3=>by
  have hR:=h.qgu he hclk q1 hzz q2;refine .value (v:=.tuple #[]) (run _ q3) (γ':=γ) (S':=S) ?_;unfold out at hg;cases hdst:o.dst with
  |none=>rw[hdst]at hg;rw[q2w hg];exact hR
  |some dd=>rw[hdst]at hg;rw[q2w hg];exact hR.put (hd dd hdst) .dead
 rcases q9v (k:=kf) (i:=0) hall with⟨h1,h2,_,h4⟩ | ⟨j,x',e,h1,h2,h3,h4,h5,h6,_,h8⟩
 ·refine go arr hst (by rw[(qbu h4 ei.q1g clk).2.2.2];exact hall) ?_;simp only[Builtin.delete_,hat0,Dy,Aj,AO,Sem.run_bind,run_underlying hu,Result.andThen_ok,MapKept.run_getObj_map hbk,hck,hf,h1,MapKept.run_setObj_map _ hbk,Sem.run_pure]
 ·refine go (arr.eraseIdxIfInBounds j) (MapKept.stamped_erase hst _) ?_ ?_
  ·have hlt:j<arr.size:=by have:=(Ao.1 h3).1;simpa using this
   rw[(h8 ei.q1g clk).2.2.2,Array.eraseIdxIfInBounds,BY hlt,Array.toList_eraseIdx];exact hall.erase j
  ·simp only[Builtin.delete_,hat0,Dy,Aj,AO,Sem.run_bind,run_underlying hu,Result.andThen_ok,MapKept.run_getObj_map hbk,hck,hf,h1,AJ,MapKept.run_setObj_map _ hbk,Sem.run_pure]
end
end Rf
end
section
namespace Rf
open Go
theorem qrv{P:Program}(w:World)(t ty e:TypeId)(i:TypeInfo)(ht:P.underlying t=some (.slice e))(hi:P.info? e=some i)(base aa:Option Addr)(n cap c:Nat)(hc:n<=cap) :
  (Builtin.append_ #[t,t] ty #[.slice base n cap,.slice aa 0 c]).run P w=.ok (.slice base n cap) w:=by
 cases aa <;> cases base <;> simp[Builtin.append_,run_underlying ht,Go.sizeOf,typeInfo,hi,Builtin.lenOf,hc,Builtin.firstCells,loadCells,loadCellsFrom,storeCells]
section
variable {E:Env} {call:FuncId->List FV->Res} {X:Cx} {M:Mem} {a:Act} {w:World} {γ:Nat->Gh} {S:Nat->Prop} {us:List (Key×Ent)} {o:Oper}
theorem Rel.gainNil(h:Rel X M a w γ S){d sz:Nat}(hd:X.Dst d)(hf:hdOf M d=none) :
  Rel X ((.slot d,.sv (.sl d none))::(.head d,.vec sz [])::M) (a.put (some d) (.slice none 0 0)) w (Gh.upd γ d ⟨0,0,0,true⟩) S:=by
 have hne:∀i e,hdOf M i=some e->i≠d:=λi e h1 h2=>by rw[h2,hf]at h1;simp at h1
 have hM:∀i,i≠d->hdOf ((.head d,.vec sz [])::M) i=hdOf M i:=λi hi=>by rw[hdOf,hdOf,Mem.qj,if_neg (by simpa using hi)]
 have he:hdOf ((.head d,.vec sz [])::M) d=some (.vec sz []):=by rw[hdOf,Mem.qj,if_pos rfl]
 have hh:HdLe (hdOf M) (hdOf ((.head d,.vec sz [])::M)) γ (Gh.upd γ d ⟨0,0,0,true⟩):=λi e h1=>⟨e,by rw[hM i (hne i e h1)];exact h1,.inr ⟨rfl,rfl,λh=>h,Gh.q35 γ _ (hne i e h1)⟩⟩;have cases':∀i e',hdOf ((.head d,.vec sz [])::M) i=some e'->(i=d/\e'=.vec sz [])\/(i≠d/\hdOf M i=some e'):=λi e' h1=>by
  by_cases hi:i=d
  ·subst hi;rw[he]at h1;exact .inl ⟨rfl,by simpa using h1.symm⟩
  ·exact .inr ⟨hi,by rw[<- hM i hi];exact h1⟩
 have hR:Rel X ((.head d,.vec sz [])::M) a w (Gh.upd γ d ⟨0,0,0,true⟩) S:=by
  refine { keep:=h.keep,head:=λi e' h1=>?_,own:=λi e' h1 h2=>?_,inj:=λi e1 j e2 h1 h2 o1 o2 hbk=>?_,nt:=h.nt,q2p:=h.q2p,pin:=h.pin,slot:=λt s hs=>?_ }
  ·rcases cases' i e' h1 with⟨rfl,rfl⟩ | ⟨hi,h1⟩
   ·refine⟨BP _,?_⟩;rw[Gh.q32,if_pos rfl];exact⟨rfl,rfl⟩
   ·exact(h.head i e' h1).go (λ_ _=>rfl) (λ_ h=>h) hh (Gh.q35 γ _ hi) (λj=>by rw[Mem.qj,if_neg (by simp)]) λ_=>rfl
  ·rcases cases' i e' h1 with⟨rfl,rfl⟩ | ⟨hi,h1⟩
   ·simp[Owned,Gh.q32]at h2
   ·have h2:=Owned.congr (Gh.q35 γ _ hi) h2;rw[Gh.q35 γ _ hi];exact h.own i e' h1 h2
  ·rcases cases' i e1 h1 with⟨rfl,rfl⟩ | ⟨hi,h1⟩
   ·simp[Owned,Gh.q32]at o1
   rcases cases' j e2 h2 with⟨rfl,rfl⟩ | ⟨hj,h2⟩
   ·simp[Owned,Gh.q32]at o2
   ·rw[Gh.q35 γ _ hi,Gh.q35 γ _ hj]at hbk;exact h.inj i e1 j e2 h1 h2 (Owned.congr (Gh.q35 γ _ hi) o1) (Owned.congr (Gh.q35 γ _ hj) o2) hbk
  ·rw[Mem.qj,if_neg (by simp)]at hs;exact(h.slot t s hs).mono (λ_ _=>rfl) (λ_ h=>h) hh
 exact hR.put hd (s:=.sl d none) (by
  have:=SRep.sl (w:=w) (S:=S) (γ:=Gh.upd γ d ⟨0,0,0,true⟩) he (sz:=sz) (len:=0) rfl
  rwa[Gh.q32]at this)
theorem Rel.gainVec(h:Rel X M a w γ S){d:Nat}(hd:X.Dst d)(hf:hdOf M d=none){sz:Nat}{xs:List FV}{w':World}{g:Gh}{vals:Array Value}{t:TypeId}(hg:g.nil=false)(hb:But g.blk w w')(hS:¬ S g.blk)
  (hn:∀i e,hdOf M i=some e->Owned γ i e->(γ i).blk≠g.blk) (hl:g.blk<w'.heap.size) (hx:X.W0 g.blk\/X.w0.heap.size<=g.blk) (hc:xs.length<=g.cap)
  (hv:w'.heap[g.blk]?=some (.cells vals t (0,0))) (hs:g.off+g.cap*sz<=vals.size) (hrow:Row w' S g.blk g.off sz xs) :
  Rel X ((.slot d,.sv (.sl d none))::(.head d,.vec sz xs)::M) (a.put (some d) (.slice (some ⟨g.blk,g.off,none⟩) xs.length g.cap)) w' (Gh.upd γ d g) S:=by
 have hM:q43 d M ((.head d,.vec sz xs)::M):=by
  refine⟨λi hi=>?_,λi j hi=>?_,λt=>?_⟩
  ·rw[hdOf,hdOf,Mem.qj,if_neg (by simpa using hi)]
  ·rw[Mem.qj,if_neg (by simp)]
  ·rw[Mem.qj,if_neg (by simp)]
 have he:hdOf ((.head d,.vec sz xs)::M) d=some (.vec sz xs):=by rw[hdOf,Mem.qj,if_pos rfl]
 have hR:=h.gain hf hM he hb hS hn hl hx (λhh=>by
  refine⟨by rw[Gh.q32];exact hc,?_⟩;rw[Gh.q32,if_neg (by simp[hg])]
  exact⟨vals,t,hv,hs,hrow⟩)
 exact hR.put hd (s:=.sl d none) (by
  have:=SRep.sl (w:=w') (S:=S) (γ:=Gh.upd γ d g) he (sz:=sz) (len:=xs.length) rfl
  rwa[Gh.q32,show g.base=some ⟨g.blk,g.off,none⟩ by simp[Gh.base,hg]]at this)
theorem idx{sz i j k:Nat}(hj:j<sz)(h:i<k):i*sz+j<k*sz:=by
 have:=AR sz (show i+1<=k by omega);rw[AT,Cf]at this;omega
theorem qkz{b p sz:Nat}{ys:List FV}(hr:Row w S b p sz ys)(hsz:1<=sz):(q3b w b p sz ys.length).length=ys.length*sz /\
  (∀(j:Nat) (u:Value),(q3b w b p sz ys.length)[j]?=some u->w.cell? ((⟨b,p,none⟩:Addr).add j)=some u)/\(∀u∈q3b w b p sz ys.length,u.oneCell'=true) /\
  ∀(i j:Nat) (x c:FV),ys[i]?=some x->x.cells[j]?=some c->∃u,(q3b w b p sz ys.length)[i*sz+j]?=some u/\FRep w S c u:=by
 have key:∀k,k<ys.length*sz->∃v c,cellAt w b (p+k)=some v/\FRep w S c v/\c.flat=true:=λk hk=>by
  have hi:k / sz<ys.length:=BI (by rwa[AC]);have hj:k%sz<sz:=AL _ (by omega);have hx:ys[k / sz]?=some ys[k / sz]:=Ag hi;obtain⟨e1,e2⟩:=hr.1 _ (AS hx);have hc:ys[k / sz].cells[k%sz]?=some ys[k / sz].cells[k%sz]:=Ag (by omega);obtain⟨v,h1,h2⟩:=hr.2 _ _ _ _ hx hc;have:k / sz*sz+k%sz=k:=by rw[AC];exact DH k sz
  rw[this]at h1;exact⟨v,_,h1,h2,e2 _ (AS hc)⟩
 refine⟨by simp[q3b],λj u hj=>?_,λu hu=>?_,λi j x c hi hj=>?_⟩
 ·have hlt:=(Ao.1 hj).1;have hlt':j<ys.length*sz:=by simpa[q3b]using hlt
  rw[qf0 hlt']at hj;cases hj;obtain⟨v,c,h1,_,_⟩:=key j hlt';rw[q5d];show cellAt w b (p+j)=_;rw[h1];rfl
 ·obtain⟨j,hj⟩:=Bt.1 hu;have hlt:=(Ao.1 hj).1;have hlt':j<ys.length*sz:=by simpa[q3b]using hlt
  rw[qf0 hlt']at hj;cases hj;obtain⟨v,c,h1,h2,h3⟩:=key j hlt';rw[h1];exact h2.one h3
 ·have hil:=(Ao.1 hi).1;have hjl:j<sz:=by have:=(Ao.1 hj).1;rw[(hr.1 _ (AS hi)).1]at this;exact this
  obtain⟨v,h1,h2⟩:=hr.2 _ _ _ _ hi hj;exact⟨v,by rw[qf0 (idx hjl hil),h1];rfl,h2⟩
theorem ql0{t el:TypeId}{te:TyI}{inf:TypeInfo}{dd:TypeDesc}{z:Value}(hu:E.P.underlying t=some (.slice el))(hT:TyOk E.P el te inf dd z)(h:Rel X M a w γ S){d:Nat}(hd:X.Dst d)(hf:hdOf M d=none)
  (hsz:1<=te.size) (hby:1<=te.bytes)
  {g:Gh} {olds:List FV} (hg:(g.nil=true/\olds=[]/\g.cap=0)\/(g.nil=false/\(∃vals e,w.heap[g.blk]?=some (.cells vals e (0,0))/\g.off+g.cap*te.size<=vals.size)/\Row w S g.blk g.off te.size olds /\
   ¬ S g.blk/\(∀i e,hdOf M i=some e->Owned γ i e->(γ i).blk≠g.blk)/\(X.W0 g.blk\/X.w0.heap.size<=g.blk))) (hcap:olds.length<=g.cap)
  {ys:List FV} {aa:Option Addr} {c b p:Nat} (ha:ys≠[]->aa=some ⟨b,p,none⟩) (hr:Row w S b p te.size ys) (hlim:(olds.length+ys.length)*te.bytes<=140737488355328) (ty:TypeId) :
  ∃v' w' γ',(Builtin.append_ #[t,t] ty #[.slice g.base olds.length g.cap,.slice aa ys.length c]).run E.P w=.ok v' w'/\Rel X ((.slot d,.sv (.sl d none))::(.head d,.vec te.size (olds++ys))::M) (a.put (some d) v') w' γ' S:=by
 have hsize:inf.size=te.size:=hT.size;by_cases hy:ys=[]
 ·subst hy;have hrun:=qrv (P:=E.P) w t ty el inf hu hT.info g.base aa olds.length g.cap c hcap;rw[AM];rcases hg with⟨hn,rfl,hc0⟩ | ⟨hn,⟨vals,e,hb,hsz'⟩,hrow,hS,hno,hW⟩
  ·refine⟨_,w,Gh.upd γ d ⟨0,0,0,true⟩,hrun,?_⟩;have:=h.gainNil (sz:=te.size) hd hf;simpa[Gh.base,hn,hc0]using this
  ·refine⟨_,w,Gh.upd γ d g,hrun,?_⟩;have hl:g.blk<w.heap.size:=(Fc.1 hb).1;have:=h.gainVec hd hf (xs:=olds) hn (But.refl _ _) hS hno hl hW hcap hb hsz' hrow;simpa[Gh.base,hn]using this
 ·obtain rfl:=ha hy;obtain⟨r1,r2,r3,r4⟩:=qkz hr hsz;have hm:0<ys.length:=Db.2 hy;have hneed:olds.length+ys.length<=140737488355328:=AZ (Es _ (by omega)) hlim;have fresh:∀(old:Nat) (olds':List Value),olds'.length=olds.length*te.size->(∀(i j:Nat) (x c:FV),olds[i]?=some x->x.cells[j]?=some c->∃u,olds'[i*te.size+j]?=some u/\FRep w S c u)->(∀x,x∈olds->El te.size x) ->
    (Builtin.append_ #[t,t] ty #[.slice g.base olds.length g.cap,.slice (some ⟨b,p,none⟩) ys.length c]).run E.P w=.ok (.slice (some ⟨w.heap.size,0,none⟩) (olds.length+ys.length) (grownCap w (olds.length+ys.length) old el))
     (w.drew.alloc (.cells (olds'.toArray++(q3b w b p te.size ys.length).toArray++Builtin.zeroCells z.cells (grownCap w (olds.length+ys.length) old el-(olds.length+ys.length))) el)) ->
    ∃v' w' γ',(Builtin.append_ #[t,t] ty #[.slice g.base olds.length g.cap,.slice (some ⟨b,p,none⟩) ys.length c]).run E.P w=.ok v' w'/\Rel X ((.slot d,.sv (.sl d none))::(.head d,.vec te.size (olds++ys))::M) (a.put (some d) v') w' γ' S:=by
   intro old olds' hl' hold hel hrun;refine⟨_,_,Gh.upd γ d ⟨w.heap.size,0,grownCap w (olds.length+ys.length) old el,false⟩,hrun,?_⟩;have hz:z.cells.size=te.size:=by have:=qai hT.q2c;simpa[hT.len]using this
   have hge:=grownCap_ge w (olds.length+ys.length) old el;have:=(h.drew (w.drawn+1)).newVec hd hf (sz:=te.size) (cap:=grownCap w (olds.length+ys.length) old el) (xs:=olds++ys)
    (vals:=olds'.toArray++(q3b w b p te.size ys.length).toArray++Builtin.zeroCells z.cells (grownCap w (olds.length+ys.length) old el-(olds.length+ys.length))) (t:=el)
    (by simpa using hge) (by
     simp only[Array.size_append,List.size_toArray,size_zeroCells,hz,hl',r1,<- AT];exact AR _ (by omega)) (λx hx=>(BL.1 hx).elim (hel x) (hr.1 x)) (λi j x c hi hj=>by
     have hjl:j<te.size:=by
      have:=(Ao.1 hj).1;rwa[((BL.1 (AS hi)).elim (hel x) (hr.1 x)).1]at this
     rw[Cq]at hi;split at hi
     ·rename_i hlt;obtain⟨u,q1,q2⟩:=hold i j x c hi hj;refine⟨u,?_,q2.drawn⟩;rw[Array.append_assoc,Fd (by simp[hl'];exact idx hjl hlt)];simpa using q1
     ·rename_i hlt;obtain⟨u,q1,q2⟩:=r4 _ j x c hi hj;refine⟨u,?_,q2.drawn⟩;have hil:=(Ao.1 hi).1;have hin:(i-olds.length)*te.size+j<ys.length*te.size:=idx hjl hil;have hsub:i*te.size+j=olds.length*te.size+((i-olds.length)*te.size+j):=by
       rw[<- Bl,<- AT,show olds.length+(i-olds.length)=i by omega]
      rw[Array.append_assoc,Array.getElem?_append_right (by simp[hl'];rw[hsub];omega),Fd (by simp[hl',r1];rw[hsub];omega)];rw[show i*te.size+j-olds'.toArray.size=(i-olds.length)*te.size+j by simp[hl'];omega]
      simpa using q1)
   simp only[Bb]at this;exact this
  rcases hg with⟨hn,rfl,hc0⟩ | ⟨hn,⟨vals,e,hb,hsz'⟩,hrow,hS,hno,hW⟩
  ·have hbase:g.base=none:=by simp[Gh.base,hn]
   have hrun:=run_append_nil (P:=E.P) w t ty el inf z hu hT.info hT.zero ⟨b,p,none⟩ ys.length c _ (by rw[hsize];exact r1) r2 hm (by omega) (by rw[hT.bytes];have:=hlim;simp only[Bf,AJ]at this;omega);refine fresh 0 [] (by simp) (λi j x c hi=>by simp at hi) (λx hx=>by simp at hx) ?_;simp only[Bf,AJ,hbase,hc0];simpa using hrun
  ·have hbase:g.base=some ⟨g.blk,g.off,none⟩:=by simp[Gh.base,hn]
   rw[hbase]at fresh ⊢;by_cases hroom:olds.length+ys.length<=g.cap
   ·have hmul:(olds.length+ys.length)*te.size<=g.cap*te.size:=AR _ hroom;rw[AT]at hmul;have r1':(q3b w b p te.size ys.length).length=ys.length*te.size:=r1;have hrun:=qo1 (P:=E.P) w t ty el e inf hu hT.info g.blk g.off olds.length g.cap vals hb ⟨b,p,none⟩ ys.length c _ (by rw[hsize];exact r1) r2 r3 hroom (by rw[hsize,r1'];omega);refine⟨_,_,Gh.upd γ d g,hrun,?_⟩;have hheap:=setRow_heap w g.blk vals (vals.toList.take (g.off+olds.length*inf.size)++q3b w b p te.size ys.length++vals.toList.drop (g.off+olds.length*inf.size+(q3b w b p te.size ys.length).length)).toArray e (0,0) hb;have hsp:=qgv vals.toList (g.off+olds.length*inf.size) (q3b w b p te.size ys.length) (by simp[r1',hsize];omega);have hw:=h.toHRel.q8m (But.setRow w g.blk (vals.toList.take (g.off+olds.length*inf.size)++q3b w b p te.size ys.length++vals.toList.drop (g.off+olds.length*inf.size+(q3b w b p te.size ys.length).length)).toArray) hS;have:=h.gainVec hd hf (sz:=te.size) (xs:=olds++ys) hn (But.setRow w g.blk _) hS hno (by rw[show(w.setRow g.blk _).heap.size=w.heap.size by simp[World.setRow]];exact(Fc.1 hb).1) hW (by simpa using hroom) hheap
     (by simp[r1',hsize];omega) ⟨λx hx=>(BL.1 hx).elim (hrow.1 x) (hr.1 x),λi j x c hi hj=>by
      rw[q5l hheap,Dy,hsp];have hjl:j<te.size:=by
       have:=(Ao.1 hj).1;rwa[((BL.1 (AS hi)).elim (hrow.1 x) (hr.1 x)).1]at this
      rw[Cq]at hi;split at hi
      ·rename_i hlt;have hin:=idx hjl hlt;rw[if_neg (by rw[hsize];omega)];obtain⟨v,q1,q2⟩:=hrow.2 i j x c hi hj;rw[q5l hb]at q1;exact⟨v,by simpa using q1,q2.mono hw (λ_ h=>h)⟩
      ·rename_i hlt;obtain⟨u,q1,q2⟩:=r4 _ j x c hi hj;have hil:=(Ao.1 hi).1;have hin:(i-olds.length)*te.size+j<ys.length*te.size:=idx hjl hil;have hsub:i*te.size+j=olds.length*te.size+((i-olds.length)*te.size+j):=by
        rw[<- Bl,<- AT,show olds.length+(i-olds.length)=i by omega]
       rw[if_pos (by rw[hsize,r1',hsub];omega)]
       exact⟨u,by rw[show g.off+(i*te.size+j)-(g.off+olds.length*inf.size)=(i-olds.length)*te.size+j by rw[hsize,hsub];omega];exact q1,q2.mono hw (λ_ h=>h)⟩⟩
    rw[Bb]at this;exact this
   ·obtain⟨o1,o2,o3,o4⟩:=qkz hrow hsz;have hrun:=run_append_grow (P:=E.P) w t ty el inf z hu hT.info hT.zero ⟨g.blk,g.off,none⟩ olds.length g.cap (q3b w g.blk g.off te.size olds.length) (by rw[o1,hsize]) o2 ⟨b,p,none⟩ ys.length c _ (by rw[hsize];exact r1) r2 (by omega) (by omega)
     (growslice_fits (by omega) (by rw[hT.bytes];exact hlim))
    exact fresh g.cap _ o1 o4 hrow.1 hrun
end
end Rf
end
end
namespace Rf
open Go
section
section
variable {E:Env} {call:FuncId->List FV->Res} {X:Cx} {M:Mem} {a:Act} {w:World} {γ:Nat->Gh} {S:Nat->Prop} {us:List (Key×Ent)} {o:Oper}
theorem exec_builtin{P:Program}{b:Builtin}{args:Array Operand}{ats:Array TypeId}(hop:o.op=.call { callee:=.builtin b,args:=args,argTypes:=ats }) :
  (execOp a.eval o).run P w=(builtin b ats o.type (args.map fun | .const _=>true | _=>false) (args.map a.eval)).run P w:=by
 simp[execOp,hop,resolve,invoke];rfl
theorem qcg{args:Array Operand}{vs:List SV}(hl:vs.length=args.toList.length)(hv:∀(j:Nat) (x:Operand),args.toList[j]?=some x->∃s,vs[j]?=some s/\SRep w S γ (hdOf M) s (a.eval x)){n:Nat}(hn:vs.length=n) :
  (args.map a.eval).toList.length=n/\∀(j:Nat) (s:SV),vs[j]?=some s->∃v,(args.map a.eval).toList[j]?=some v/\SRep w S γ (hdOf M) s v:=by
 refine⟨by simp at hl ⊢;omega,λj s hs=>?_⟩;have hj:j<args.toList.length:=by rw[<- hl];exact(Ao.1 hs).1
 obtain⟨s',h1,h2⟩:=hv j args.toList[j] (Ag hj);rw[hs]at h1;cases h1;exact⟨_,by simp only[DP,Bq,Ag hj,AD],h2⟩
theorem args1{args:Array Operand}{s:SV}(h:(args.map a.eval).toList.length=1/\∀(j:Nat) (t:SV),[s][j]?=some t->∃v,(args.map a.eval).toList[j]?=some v/\SRep w S γ (hdOf M) t v) :
  ∃v,args.map a.eval=#[v]/\SRep w S γ (hdOf M) s v:=by
 obtain⟨v,h1,h2⟩:=h.2 0 s rfl;refine⟨v,?_,h2⟩;have h3:=h.1;apply De;generalize (args.map a.eval).toList=l at *
 match l,h3 with
 |[x],_=>simp at h1;subst h1;rfl
theorem args2{args:Array Operand}{s t:SV}(h:(args.map a.eval).toList.length=2/\∀(j:Nat) (u:SV),[s,t][j]?=some u->∃v,(args.map a.eval).toList[j]?=some v/\SRep w S γ (hdOf M) u v) :
  ∃v u,args.map a.eval=#[v,u]/\SRep w S γ (hdOf M) s v/\SRep w S γ (hdOf M) t u:=by
 obtain⟨v,h1,h2⟩:=h.2 0 s rfl;obtain⟨u,h4,h5⟩:=h.2 1 t rfl;refine⟨v,u,?_,h2,h5⟩;have h3:=h.1;apply De;generalize (args.map a.eval).toList=l at *
 match l,h3 with
 |[x,y],_=>simp at h1 h4;subst h1;subst h4;rfl
theorem ats_of1{ats:Array TypeId}{t:TypeId}(h:ats.toList=[t]):ats=#[t]:=by
 apply De;rw[h]
theorem ats_of2{ats:Array TypeId}{t u:TypeId}(h:ats.toList=[t,u]):ats=#[t,u]:=by
 apply De;rw[h]
theorem qs9{b:Builtin}{args:Array Operand}{ats:Array TypeId}(hE:q15 E)(h:Rel X M a w γ S)(hd:∀d,o.dst=some d->X.Dst d)(hop:o.op=.call { callee:=.builtin b,args:=args,argTypes:=ats })(hg0:Gets (rtOp E call o) M us) :
  Goal E.P X M o a w us:=by
 simp only[rtOp,hop]at hg0;obtain⟨vs,hl,hv,hg⟩:=qbq h hg0;clear hg0;have hex:=exec_builtin (w:=w) (P:=E.P) (a:=a) hop;unfold builtinOp at hg;split at hg
 ·rename_i s;obtain⟨v,hargs,hs⟩:=args1 (qcg hl hv (n:=1) rfl);split at hg
  ·rename_i t hats;have hats':=ats_of1 hats;have run:∀n:Nat,(Builtin.len_ #[t] o.type #[v]).run E.P w=.ok (goInt n) w->(execOp a.eval o).run E.P w=.ok (.value (.int .i64 n)) w:=λn hn=>by
    rw[hex,hargs,hats'];simp only[builtin];simp[hn,goInt]
   split at hg
   ·rename_i str;obtain⟨hu,hg⟩:=qfn hE hg;have e:=hs.q5b;exact .q1i (run str.size (by rw[e];simp[Builtin.len_,run_underlying hu])) (q1f h hd (.fv (.int _ _)) hg)
   ·rename_i sz xs;obtain⟨el,te,inf,dd,z,hu,hT,hg⟩:=q5e hE hg;obtain⟨aa,cap,b',p,e,_⟩:=FRep.q38.1 hs.qcp;exact .q1i (run xs.length (by rw[e];simp[Builtin.len_,run_underlying hu])) (q1f h hd (.fv (.int _ _)) hg)
   ·obtain⟨el,te,inf,dd,z,hu,hT,hg⟩:=q5e hE hg;have e:=hs.q8z;exact .q1i (run 0 (by rw[e];simp[Builtin.len_,run_underlying hu])) (q1f h hd (.fv (.int _ _)) hg)
   ·rename_i id view;obtain⟨el,te,inf,dd,z,hu,hT,hg⟩:=q5e hE hg;obtain⟨e,he,hg⟩:=q2y hg;have go:∀(s0:Nat) (xs:List FV),e.row=some (s0,xs.length)->Gets (match(generalizing:=false) view with | none=>out o.dst (.fv (.int .i64 xs.length)) [] | some (_,n)=>out o.dst (.fv (.int .i64 n)) []) M us->Goal E.P X M o a w us:=by
     clear hg;intro s0 xs hrow hgA;rcases hs.q67 he hrow with⟨rfl,e⟩ | ⟨o',n,aa,c,rfl,e,_⟩
     ·exact .q1i (run xs.length (by rw[e];simp[Builtin.len_,run_underlying hu])) (q1f h hd (.fv (.int _ _)) hgA)
     ·exact .q1i (run n (by rw[e];simp[Builtin.len_,run_underlying hu])) (q1f h hd (.fv (.int _ _)) hgA)
    split at hg
    ·exact go _ _ rfl hg
    ·exact go _ _ rfl hg
    ·exact(qh hg).elim
   ·rename_i id0 _;obtain⟨id,kt,et,ki,ei,inf,dd,z,hid,e,he,hu,hc,hT,hg⟩:=qar hE hs hg;obtain⟨es,clk,c0,hg⟩:=q9w hg;obtain⟨es1,clk1,es',clk',d0,_,_,arr,c,hbk,_,_,_,hall⟩:=qas h he;rw[c0]at d0;cases d0;have hlen:es.length=arr.size:=by have:=hall.len;simpa using this
    exact .q1i (run es.length (by rw[e,hlen];exact run_len_map hu hbk _)) (q1f h hd (.fv (.int _ _)) hg)
   ·exact(qh hg).elim
  ·exact(qh hg).elim
 ·rename_i s x;obtain⟨v,u,hargs,hs,hx⟩:=args2 (qcg hl hv (n:=2) rfl);split at hg
  ·rename_i t r hats;exact qru hE h hd hs hx hats hg λw' hw=>by
    rw[hex,hargs];simp only[builtin];simp[hw]
  ·exact(qh hg).elim
 ·rename_i s x;obtain⟨v,u,hargs,hs,hx⟩:=args2 (qcg hl hv (n:=2) rfl);split at hg
  ·rename_i t t' d hats hdst;obtain⟨ht,hg1⟩:=q16 hg;have ht':=Aw ht;subst ht';obtain⟨el,te,inf,dd,z,hu,hT,hg2⟩:=q5e hE hg1;obtain⟨hb,hg3⟩:=q16 hg2;simp only[Ai]at hb;have hby:=Bz hb.1.2;have hsz:=Bz hb.2;obtain⟨ys,aa,c,b',p,hxv,hcap,haa,hrow,hg4⟩:=qir h hx hg3;clear hg hg1 hg2 hg3;have hats':=ats_of2 hats;have fin:∀ {us':List (Key×Ent)} {v':Value} {w':World} {γ':Nat->Gh},(Builtin.append_ #[t,t] o.type #[v,u]).run E.P w=.ok v' w'->Rel X (us'++M) (a.put (some d) v') w' γ' S->us=us'->Goal E.P X M o a w us:=by
    intro us' v' w' γ' h1 h2 h3;subst h3;refine .value (v:=v') ?_ (by rw[hdst];exact h2);rw[hex,hargs,hats'];simp only[builtin];simp[h1]
   have lim:∀n,Nat.ble n (140737488355328 / te.bytes)=true->n*te.bytes<=140737488355328:=λn hn=>by
    have:=Bz hn;exact AZ (AR _ this) (EG _ _)
   split at hg4
   ·have e:=hs.q8z;rcases q6y hg4 with⟨hlim,hg5⟩ | ⟨_,hg5⟩
    ·obtain⟨hf,hg6⟩:=q7p hg5;obtain⟨v',w',γ',h1,h2⟩:=ql0 hu hT h (hd d hdst) hf hsz hby (g:=⟨0,0,0,true⟩) (olds:=[]) (.inl ⟨rfl,rfl,rfl⟩) (Ak _) (aa:=aa) (c:=c) haa hrow (by simpa using lim _ hlim) o.type;refine fin (v':=v') (w':=w') (γ':=γ') ?_ h2 (q2w hg6);rw[e,hxv];simpa[Gh.base]using h1
    ·exact(qh hg5).elim
   ·rename_i id view;obtain⟨e,he,hg5⟩:=q2y hg4;split at hg5
    ·rename_i sz xs;obtain⟨hq,hg6⟩:=q16 hg5;have hq':=Aw hq;subst hq';have step:∀n,n<=xs.length->v=.slice (γ id).base n (γ id).cap->hdOf M d=none->n*te.bytes+ys.length*te.bytes<=140737488355328 ->
       ∃v' w' γ',(Builtin.append_ #[t,t] o.type #[v,u]).run E.P w=.ok v' w'/\Rel X ((.slot d,.sv (.sl d none))::(.head d,.vec te.size (xs.take n++ys))::(.head id,.tomb)::M) (a.put (some d) v') w' γ' S:=by
      intro n hn hv' hf hlim;have hne:d≠id:=λq=>by rw[q,he]at hf;cases hf
      have hM:q43 id M ((.head id,.tomb)::M) :=
       ⟨λi hi=>by rw[hdOf,hdOf,Mem.qj,if_neg (by simpa using hi)],λi j hi=>by rw[Mem.qj,if_neg (by simp)],λt=>by rw[Mem.qj,if_neg (by simp)]⟩
      have hR:=h.lose hM (by rw[hdOf,Mem.qj,if_pos rfl]);have hf':hdOf ((.head id,.tomb)::M) d=none:=by rw[hM.1 d hne];exact hf
      have ho:=h.head id _ he;have hlen:(xs.take n).length=n:=by simp;omega
      obtain⟨v',w',γ',h1,h2⟩:=ql0 hu hT hR (hd d hdst) hf' hsz hby (g:=γ id) (olds:=xs.take n) (by
       by_cases hn':(γ id).nil=true
       ·have:=ho.2;rw[if_pos hn']at this;exact .inl ⟨hn',by rw[this.1];simp,this.2⟩
       ·have hnf:(γ id).nil=false:=by simpa using hn'
        have:=ho.2;rw[if_neg hn']at this;obtain⟨vals,te',hb1,hb2,hb3⟩:=this;have own:=h.own id _ he hnf;refine .inr ⟨hnf,⟨vals,te',hb1,hb2⟩,?_,own.2.1,λi e' h3 h4 h5=>?_,own.2.2⟩
        ·have:=hb3.sub 0 n;simpa using this
        ·by_cases hi:i=id
         ·subst hi;rw[hdOf,Mem.qj,if_pos rfl]at h3;cases h3;exact h4.elim
         ·rw[hM.1 i hi]at h3;exact hi (h.inj i e' id _ h3 he h4 hnf h5)) (by rw[hlen];have:=ho.1;omega) (aa:=aa) (c:=c) haa hrow (by rw[hlen,AT];exact hlim) o.type
      refine⟨v',w',γ',?_,h2⟩;rw[hv',hxv];rw[hlen]at h1;exact h1
     split at hg6
     ·rcases q6y hg6 with⟨hlim,hg7⟩ | ⟨_,hg7⟩
      ·obtain⟨hf,hg8⟩:=q7p hg7;have hv':v=.slice (γ id).base xs.length (γ id).cap:=by
        rcases hs.q67 he rfl with⟨_,q⟩ | ⟨_,_,_,_,q,_⟩
        ·exact q
        ·cases q
       obtain⟨v',w',γ',h1,h2⟩:=step xs.length (Ak _) hv' hf (by rw[<- AT];exact lim _ hlim);rw[Bj]at h2;exact fin h1 h2 (q2w hg8)
      ·exact(qh hg7).elim
     ·rename_i n;rcases q6y hg6 with⟨hlim,hg7⟩ | ⟨_,hg7⟩
      ·obtain⟨hf,hg8⟩:=q7p hg7;rcases hs.q67 he rfl with⟨q,_⟩ | ⟨o',n',aa',c',q,hv',h3,_,_,h6⟩
       ·cases q
       ·cases q;obtain⟨rfl,rfl⟩:=h6 rfl;obtain⟨v',w',γ',h1,h2⟩:=step n (by omega) hv' hf (by rw[<- AT];exact lim _ hlim);exact fin h1 h2 (q2w hg8)
      ·exact(qh hg7).elim
     ·exact(qh hg6).elim
    ·exact(qh hg5).elim
   ·exact(qh hg4).elim
  ·exact(qh hg).elim
 ·rename_i k m k' n;obtain⟨v,u,hargs,hs,hx⟩:=args2 (qcg hl hv (n:=2) rfl);refine .q1i (v:=.int k (if n<m then n else m)) ?_ (q1f h hd (.fv (.int _ _)) hg);rw[hex,hargs,hs.q1n,hx.q1n];simp[builtin,Builtin.min_,Builtin.min2]
 ·rename_i k m k' n;obtain⟨v,u,hargs,hs,hx⟩:=args2 (qcg hl hv (n:=2) rfl);refine .q1i (v:=.int k (if m<n then n else m)) ?_ (q1f h hd (.fv (.int _ _)) hg);rw[hex,hargs,hs.q1n,hx.q1n];simp[builtin,Builtin.max_,Builtin.max2]
 ·exact(qh hg).elim
end
end
section
section
variable {E:Env} {call:FuncId->List FV->Res} {X:Cx} {M:Mem} {a:Act} {w:World} {γ:Nat->Gh} {S:Nat->Prop} {us:List (Key×Ent)} {o:Oper}
theorem qvg{d:TypeDesc}{i:TyI}(h:descOk d i=true)(hf:i.flds.isEmpty=false):∃fs,d=.struct fs/\i.agg=true/\(fs.toList.map λf=>(f.offset,f.type))=i.flds:=by
 cases d with
 |struct fs =>
  simp only[descOk,Ai,Bu]at h;exact⟨fs,rfl,h.1,h.2⟩
 |_=>simp[descOk,hf]at h
theorem qn4{P:Program}:∀(fs:List Field),(∀f,f∈fs->∃inf,P.info? f.type=some inf) ->
  ∃places,fs.mapM (λf=>(P.info? f.type).map λi=>(f.offset,i.size))=some places/\∀(k:Nat) (f:Field),fs[k]?=some f->∃inf,P.info? f.type=some inf/\places[k]?=some (f.offset,inf.size)
 |[],_=>⟨[],rfl,λk f h=>by simp at h⟩
 |f::fs,h=>by
  obtain⟨inf,hi⟩:=h f AF;obtain⟨pl,h1,h2⟩:=qn4 fs (λg hg=>h g (AA _ hg));refine⟨(f.offset,inf.size)::pl,by simp[EA,hi,h1],λk g hg=>?_⟩;cases k with
  |zero=>simp at hg;subst hg;exact⟨inf,hi,rfl⟩
  |succ k=>simpa using h2 k g (by simpa using hg)
theorem drop_app{α:Type}(l1 l2 l3:List α)(k:Nat):(l1++(l2++l3))[k]?=if k<l1.length then l1[k]? else if k<l1.length+l2.length then l2[k-l1.length]? else l3[k-l1.length-l2.length]?:=by
 rw[Cq];split
 ·rfl
 ·rw[Cq];by_cases h:k-l1.length<l2.length
  ·rw[if_pos h,if_pos (by omega)]
  ·rw[if_neg h,if_neg (by omega)]
theorem qn5(hE:q15 E){flds:List (Nat×Nat)}{place:Nat->Option (Nat×Nat)}(hpl:∀(k off ft:Nat) (inf:TypeInfo),flds[k]?=some (off,ft)->E.P.info? ft=some inf->place k=some (off,inf.size)) :
  ∀ {ss:List (Nat×SV)} {ps:List (Nat×Value)} {cs:List SV} {cur:Array Value} {f:List SV->RT},
  ss.length=ps.length->(∀(k:Nat) (p:Nat×Value),ps[k]?=some p->∃s,ss[k]?=some (p.1,s)/\SRep w S γ (hdOf M) s p.2) ->
  cur.size=cs.length->(∀(j:Nat) (c:SV),cs[j]?=some c->SRep w S γ (hdOf M) c (cur.getD j undef))->Gets (fillR E flds cs ss f) M us ->
  ∃cs' cur',Instr.fill place cur ps=some cur'/\cur'.size=cs'.length/\(∀(j:Nat) (c:SV),cs'[j]?=some c->SRep w S γ (hdOf M) c (cur'.getD j undef))/\Gets (f cs') M us
 |[],[],cs,cur,f,_,_,h3,h4,hg=>⟨cs,cur,rfl,h3,h4,hg⟩
 |[],_::_,_,_,_,h1,_,_,_,_=>by simp at h1
 |_::_,[],_,_,_,h1,_,_,_,_=>by simp at h1
 |(i,s)::ss,(i',v)::ps,cs,cur,f,h1,h2,h3,h4,hg=>by
  obtain⟨s',q1,hs⟩:=h2 0 _ rfl;simp only[Aj,AH,Bv]at q1;obtain⟨rfl,rfl⟩:=q1;unfold fillR at hg;split at hg
  ·rename_i off ft hfl;obtain⟨fi,inf,dd,z,hT,hg⟩:=q3p hE hg;obtain⟨hb,hg⟩:=q16 hg;simp only[Ai]at hb;obtain⟨hlv,hg⟩:=qdi hg;have e1:=Aw hb.1.1;have e2:=Bz hb.1.2;obtain⟨c1,c2,c3⟩:=qfu hs hb.2 hlv;have hstep:=ql7 place cur i v ps (hpl i off ft inf hfl hT.info) (by rw[c1,e1,hT.size]) (by rw[hT.size,h3];exact e2);rw[hstep];have hlen:(cs.take off++(s.cells++cs.drop (off+s.cells.length))).length=cs.length:=by simp;omega
   refine qn5 hE hpl (by simpa using h1) (λk p hk=>by simpa using h2 (k+1) p (by simpa using hk)) (by rw[qe8,hlen,h3]) (λj c hj=>?_) hg;rw[drop_app]at hj;have ht:(cs.take off).length=off:=by simp;omega
   rw[ht]at hj;have c1':v.cells.size=s.cells.length:=c1;have hget:=qh4 off j v.cells.toList 0 cur (by rw[Bw,c1',e1,h3];omega);rw[Az,hget];simp only[Ay,Bw,c1'];split at hj
   ·rename_i hlt;rw[if_neg (by omega),<- Az];exact h4 j c (by rwa[CN hlt]at hj)
   ·rename_i hlt;split at hj
    ·rename_i hlt2;rw[if_pos (by omega)];have:=(c2 (j-off) c hj).2;rwa[Az,<- By]at this
    ·rename_i hlt2;rw[if_neg (by omega),<- Az];rw[CA]at hj;exact h4 j c (by rwa[show off+s.cells.length+(j-off-s.cells.length)=j by omega]at hj)
  ·exact(qh hg).elim
theorem sim_build{t:TypeId}{parts:Array (Nat×Operand)}(hE:q15 E)(h:Rel X M a w γ S)(hd:∀d,o.dst=some d->X.Dst d)(hop:o.op=.build t parts)(hg0:Gets (rtOp E call o) M us):Goal E.P X M o a w us:=by
 simp only[rtOp,hop]at hg0;obtain⟨ti,inf,dd,z,hT,hg1⟩:=q3p hE hg0;obtain⟨ss,l1,hss,hg2⟩:=qh5 h hg1;obtain⟨hb,hg3⟩:=q16 hg2;clear hg0 hg1 hg2;simp only[Ai,Au,Ch]at hb;obtain⟨fs,rfl,hagg,hfl⟩:=qvg hT.desc hb.2
 obtain⟨pl,p1,p2⟩:=qn4 (P:=E.P) fs.toList (λf hf=>by
  have:(f.offset,f.type)∈ti.flds:=by rw[<- hfl];exact List.mem_map_of_mem hf
  have hs:=hb.1 _ this;obtain⟨i,hi⟩:=EI.1 hs;obtain⟨inf',_,_,hT'⟩:=q8q (hE.ty _ i hi)
  exact⟨inf',hT'.info⟩)
 obtain⟨z1,z2⟩:=qjg (w:=w) (S:=S) (γ:=γ) hT (hdOf M)
 obtain⟨cs,cur,c1,c2,c3,hg⟩:=qn5 hE (place:=λk=>pl.toArray[k]?) (w:=w) (S:=S) (γ:=γ) (M:=M) (flds:=ti.flds) (λk off ft inf' hk hi=>by
   rw[<- hfl,Bq,BX]at hk;obtain⟨f,hf,hk⟩:=hk;cases hk;obtain⟨inf2,q1,q2⟩:=p2 k f hf;rw[hi]at q1;cases q1
   simpa using q2)
  (ss:=ss) (ps:=(parts.map λp=>(p.1,a.eval p.2)).toList) (cs:=ti.q7o) (cur:=z.cells) (by simp[l1]) (λk p hk=>by
   simp only[DP,Bq,BX]at hk;obtain⟨q,hq,rfl⟩:=hk
   exact hss k q hq) z1 (λj c hj=>(z2 j c hj).2) hg3
 have hbuilt:E.P.built t (parts.map λp=>(p.1,a.eval p.2)).toList=some cur:=by
  simp only[Program.built,hT.info,hT.und,hT.zero,p1];exact c1
 have hrun:=run_build (P:=E.P) w t (parts.map λp=>(p.1,a.eval p.2)) cur hbuilt;refine .q1i (v:=.agg cur) (by simp[execOp,hop,hrun]) (q1f h hd (.agg c2 c3) hg)
end
end
end Rf
