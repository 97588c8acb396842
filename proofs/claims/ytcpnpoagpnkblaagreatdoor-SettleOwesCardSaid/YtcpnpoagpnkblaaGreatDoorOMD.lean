/- Texts of this work put together, their blanks and comments taken out: Rf17, Rf18, Rf19. -/
import Derived.Test.YtcpnpoagpnkblaaGreatDoorOMC
set_option linter.unusedVariables false
set_option linter.unusedSimpArgs false
namespace Rf
open Go
section
def VRep(w:World)(S:Nat->Prop)(g:Gh)(sz:Nat)(xs:List FV):Prop :=
 xs.length<=g.cap/\(if g.nil=true then xs=[]/\g.cap=0 else
  ∃vals e,w.heap[g.blk]?=some (.cells vals e (0,0))/\g.off+g.cap*sz<=vals.size/\Row w S g.blk g.off sz xs)
abbrev Sh:=Option (Nat×Nat)×Option ObK
abbrev GA:=List (Gh×Sh)
def leafT:Tok->FV->Prop
 |.int k,.int k' _=>k=k'
 |.bool,.bool _=>True
 |.str,.str _=>True
 |.lst s,.list s' _=>s=s'
 |.raw u,.raw u'=>u'=u/\u.oneCell'=true
 |.fn,.raw u'=>u'.oneCell'=true
 |.fpt s,.ref s' _=>s=s'
 |_,_=>False
def TRep(w:World)(S:Nat->Prop):List Tok->List Value->List FV->GA->GA->Prop
 |[],V,L,acc,fin=>V=[]/\L=[]/\fin=acc
 |t::T,V,L,acc,fin=>match t with
  |.skip=>∃v V',V=v::V'/\TRep w S T V' L acc fin
  |.own sz=>∃g xs V' L',V=.slice g.base xs.length g.cap::V'/\L=.list sz xs::L'/\VRep w S g sz xs/\TRep w S T V' L' (acc++[(g,(some (sz,xs.length),none))]) fin
  |.obj k=>∃g vals e V',V=.pointer (some ⟨g.blk,0,none⟩)::V'/\g.nil=false/\w.heap[g.blk]?=some (.cells vals e (0,0))/\vals.size=k/\TRep w S T (vals.toList++V') L (acc++[(g,(none,some (.n k)))]) fin
  |.ref j=>∃g r k V',acc[j]?=some (g,(r,some (.n k)))/\g.nil=false/\V=.pointer (some ⟨g.blk,0,none⟩)::V'/\TRep w S T V' L acc fin
  |.agg k=>∃cs V',V=.agg cs::V'/\cs.size=k/\TRep w S T (cs.toList++V') L acc fin
  |.clo fn k=>∃cs V',V=.func fn #[] cs::V'/\cs.size=k/\TRep w S T (cs.toList++V') L acc fin
  |.mapt kag ks z=>∃g es clk V' L',V=.map (some g.blk)::V'/\L=.list 3 es::.int .i64 clk::L'/\g.nil=false/\MRep w S g kag ks z es clk/\TRep w S T V' L' (acc++[(g,(none,some (.m kag ks z)))]) fin
  |t=>∃v V' x L',V=v::V'/\L=x::L'/\leafT t x/\FRep w S x v/\TRep w S T V' L' acc fin
structure q53(M:Mem)(ids:List (Option Nat)):Prop where
 live:∀(j id:Nat),ids[j]?=some (some id)->∃e,hdOf M id=some e/\((∃s xs,e=.vec s xs)\/(∃n,e=.obj n)\/∃kag ks z,e=.mapH kag ks z)
 inj:∀(i j id:Nat),ids[i]?=some (some id)->ids[j]?=some (some id)->i=j
def GRel(γ:Nat->Gh)(M:Mem):Option Nat->Gh×Sh->Prop
 |none,x=>x.1=⟨0,0,0,true⟩/\x.2.2=none
 |some id,x=>x.1=γ id/\∃e,hdOf M id=some e/\x.2=(e.row,e.ob)
theorem isFn_one{v:Value}(h:isFn v=true):v.oneCell'=true:=by
 unfold isFn at h;split at h
 ·rfl
 ·cases h
theorem qet{id:Nat}:∀ {acc:List (Option Nat)},notIn id acc=true->some id ∉ acc
 |[],_=>by simp
 |none::r,h=>by simpa using qet (acc:=r) (by simpa[notIn]using h)
 |some j::r,h=>by
  simp only[notIn,Ai,Ch]at h;have h1:j≠id:=λe=>by subst e;simp at h
  simpa[BO h1]using qet h.2
theorem qfv{acc:List (Option Nat)}:∀ {fz:List (Key×Ent)},q4o acc fz=true->∀id e,(Key.head id,e)∈fz->some id ∉ acc
 |[],_,id,e,h=>by simp at h
 |(.head i,e')::r,h,id,e,hm=>by
  simp only[q4o,Ai]at h;rcases Ar.1 hm with h1 | h1
  ·cases h1;exact qet h.1
  ·exact qfv h.2 id e h1
 |(.slot _,_)::_,h,_,_,_=>by simp[q4o]at h
 |(.cell _ _,_)::_,h,_,_,_=>by simp[q4o]at h
theorem q53.add{M:Mem}{ids:List (Option Nat)}(h:q53 M ids){id:Nat}{e:Ent}(he:hdOf M id=some e)(hk:(∃s xs,e=.vec s xs)\/(∃n,e=.obj n)\/∃kag ks z,e=.mapH kag ks z)(hn:notIn id ids=true):q53 M (ids++[some id]):=by
 have hx:=qet hn;have key:∀(j i:Nat),(ids++[some id])[j]?=some (some i)->(j<ids.length/\ids[j]?=some (some i))\/(j=ids.length/\i=id):=λj i hj=>by
  rw[Cq]at hj;split at hj
  ·rename_i hlt;exact .inl ⟨hlt,hj⟩
  ·rename_i hlt;have:=(Ao.1 hj).1;simp at this;have h0:j-ids.length=0:=by omega
   rw[h0]at hj;simp at hj;exact .inr ⟨by omega,hj.symm⟩
 refine⟨λj i hj=>?_,λj1 j2 i h1 h2=>?_⟩
 ·rcases key j i hj with⟨_,hj⟩ | ⟨_,rfl⟩
  ·exact h.live j i hj
  ·exact⟨e,he,hk⟩
 ·rcases key j1 i h1 with⟨_,h1⟩ | ⟨q1,rfl⟩ <;> rcases key j2 i h2 with⟨_,h2⟩ | ⟨q2,q⟩
  ·exact h.inj j1 j2 i h1 h2
  ·subst q;exact absurd (AS (by assumption:ids[j1]?=some (some _))) hx
  ·exact absurd (AS (by assumption:ids[j2]?=some (some _))) hx
  ·omega
theorem q53.addNone{M:Mem}{ids:List (Option Nat)}(h:q53 M ids):q53 M (ids++[none]):=by
 have key:∀(j i:Nat),(ids++[none])[j]?=some (some i)->ids[j]?=some (some i):=λj i hj=>by
  rw[Cq]at hj;split at hj
  ·exact hj
  ·have:=(Ao.1 hj).1;simp at this;rename_i hlt;have h0:j-ids.length=0:=by omega
   rw[h0]at hj;simp at hj
 exact⟨λj i hj=>h.live j i (key j i hj),λj1 j2 i h1 h2=>h.inj j1 j2 i (key _ _ h1) (key _ _ h2)⟩
section
variable {E:Env} {call:FuncId->List FV->Res} {X:Cx} {M:Mem} {a:Act} {w:World} {γ:Nat->Gh} {S:Nat->Prop} {us:List (Key×Ent)} {o:Oper}
theorem qve{sz:Nat}{x:FV}{xs:List FV}(h:lstOf sz x=some xs){v:Value}(hv:FRep w S x v):FRep w S (.list sz xs) v:=by
 unfold lstOf at h;split at h
 ·rename_i s ys;by_cases hb:Nat.beq s sz=true
  ·have:=Aw hb;subst this;rw[hb]at h;simp at h;subst h;exact hv
  ·have hb':Nat.beq s sz=false:=AI.2 hb;rw[hb']at h;simp only[Ab]at h;split at h
   ·cases h;obtain⟨a,cap,b,o,rfl,_⟩:=FRep.q38.1 hv;exact qam
   ·simp at h
 ·simp at h
theorem q66{k:Key}:∀ {us:List (Key×Ent)},(∀e,(k,e) ∉ us)->Mem.get k us=none
 |[],_=>rfl
 |(k',e)::r,h=>by
  rw[Mem.qj,if_neg (λq=>h e (by rw[q];exact AF))];exact q66 λe he=>h e (AA _ he)
theorem gets_ext(h:Rel X M a w γ S):∀ {T:List Tok} {svs:List SV} {vs:List Value} {acc:List (Option Nat)} {fz:List (Key×Ent)} {f:List FV->List (Option Nat)->List (Key×Ent)->RT} {accG:GA},
  All2 (SRep w S γ (hdOf M)) svs vs->q53 M acc->All2 (GRel γ M) acc accG->qw M fz->Gets (ext T svs acc fz f) M us ->
  ∃L ids fz' G,All2 (GRel γ M) ids G/\qw M fz'/\(∀p,p∈fz->p∈fz')/\q4o ids fz'=true/\q53 M ids/\(∃r,ids=acc++r)/\Gets (f L ids fz') M us /\
   ∀S',(∀b,S b->S' b)->Rel X (fz'++M) a w γ S'->TRep w S' T vs L accG G
 |[],[],vs,acc,fz,f,accG,hs,hi,hG,hf,hg=>by
  unfold ext at hg;obtain⟨hb,hg⟩:=q16 hg;cases hs;exact⟨[],acc,fz,accG,hG,hf,λp h=>h,hb,hi,⟨[],by simp⟩,hg,λS' _ _=>⟨rfl,rfl,rfl⟩⟩
 |[],s::svs,vs,acc,fz,f,accG,hs,hi,hG,hf,hg=>by unfold ext at hg;exact(qh hg).elim
 |t::T,[],vs,acc,fz,f,accG,hs,hi,hG,hf,hg=>by unfold ext at hg;exact(qh hg).elim
 |t::T,s::svs,_,acc,fz,f,accG,.cons (y:=v) (ys:=vs) hv hs,hi,hG,hf,hg=>by
  unfold ext at hg;have leaf:∀ {x:FV} {fz1:List (Key×Ent)},(∀S',TRep w S' (t::T)=λV L acc fin=>∃v V' x L',V=v::V'/\L=x::L'/\leafT t x/\FRep w S' x v/\TRep w S' T V' L' acc fin)->leafT t x ->
    qw M fz1->(∀p,p∈fz->p∈fz1)->(∀fz' S',qw M fz'->(∀p,p∈fz1->p∈fz')->(∀b,S b->S' b)->Rel X (fz'++M) a w γ S'->FRep w S' x v)->Gets (ext T svs acc fz1 λL ids us=>f (x::L) ids us) M us ->
    ∃L ids fz' G,All2 (GRel γ M) ids G/\qw M fz'/\(∀p,p∈fz->p∈fz')/\q4o ids fz'=true/\q53 M ids/\(∃r,ids=acc++r)/\Gets (f L ids fz') M us /\
     ∀S',(∀b,S b->S' b)->Rel X (fz'++M) a w γ S'->TRep w S' (t::T) (v::vs) L accG G:=by
   intro x fz1 ht hl hf1 hsub hrep hg1;obtain⟨L,ids,fz',G,h0,h1,h2,h3,h4,h5,h6,h7⟩:=gets_ext h hs hi hG hf1 hg1;refine⟨x::L,ids,fz',G,h0,h1,λp hp=>h2 p (hsub p hp),h3,h4,h5,h6,λS' hS hR=>?_⟩;rw[ht];exact⟨v,vs,x,L,rfl,rfl,hl,hrep fz' S' h1 h2 hS hR,h7 S' hS hR⟩
  split at hg
  ·rename_i k;split at hg
   ·rename_i k' n;obtain⟨hb,hg1⟩:=q16 hg;clear hg;obtain rfl:=q7c.1 hb;refine leaf (x:=.int k n) (λ_=>rfl) rfl hf (λp h=>h) (λfz' S' _ _ hS hR=>?_) hg1;rw[hv.q1n];exact .int _ _
   ·exact(qh hg).elim
  ·split at hg
   ·rename_i b;refine leaf (x:=.bool b) (λ_=>rfl) trivial hf (λp h=>h) (λfz' S' _ _ hS hR=>?_) hg;rw[hv.q49];exact .bool _
   ·exact(qh hg).elim
  ·split at hg
   ·rename_i b;refine leaf (x:=.str b) (λ_=>rfl) trivial hf (λp h=>h) (λfz' S' _ _ hS hR=>?_) hg;rw[hv.q5b];exact .str _
   ·exact(qh hg).elim
  ·rename_i sz;split at hg
   ·refine leaf (x:=.list sz []) (λ_=>rfl) rfl hf (λp h=>h) (λfz' S' _ _ hS hR=>?_) hg;rw[hv.q8z];exact qam
   ·rename_i x;split at hg
    ·rename_i xs hx;refine leaf (x:=.list sz xs) (λ_=>rfl) rfl hf (λp h=>h) (λfz' S' _ _ hS hR=>?_) hg;cases hv with
     |fv hr=>exact qve hx (hr.mono (λ_ _=>rfl) hS)
     |tomb hs _=>simp[SV.refId]at hs
    ·exact(qh hg).elim
   ·rename_i id view;obtain⟨e,he,hg⟩:=q2y hg
    have go:∀(s:Nat) (xs:List FV),(hdOf M id=some (.vec s xs)\/hdOf M id=some (.frz s xs))->Nat.beq s sz=true->Gets (match(generalizing:=false) view with
      |none=>ext T svs acc ((.head id,.frz s xs)::fz) λL ids us=>f (.list sz xs::L) ids us
      |some (o,n)=>ext T svs acc ((.head id,.frz s xs)::fz) λL ids us=>f (.list sz ((xs.drop o).take n)::L) ids us) M us ->
      ∃L ids fz' G,All2 (GRel γ M) ids G/\qw M fz'/\(∀p,p∈fz->p∈fz')/\q4o ids fz'=true/\q53 M ids/\(∃r,ids=acc++r)/\Gets (f L ids fz') M us /\
       ∀S',(∀b,S b->S' b)->Rel X (fz'++M) a w γ S'->TRep w S' (.lst sz::T) (v::vs) L accG G:=by
     clear hg;intro s xs hh hb hg1;have:=Aw hb;subst this;split at hg1
     ·refine leaf (x:=.list s xs) (λ_=>rfl) rfl (hf.cons hh) (λp h=>AA _ h) (λfz' S' hfz hsub hS hR=>?_) hg1;exact((FzOk.sl (M:=M) (hsub _ AF)).rep hfz hR (hv.mono (λ_ _=>rfl) hS hfz.hdLe)).1
     ·rename_i o n;refine leaf (x:=.list s ((xs.drop o).take n)) (λ_=>rfl) rfl (hf.cons hh) (λp h=>AA _ h) (λfz' S' hfz hsub hS hR=>?_) hg1;exact((FzOk.view (M:=M) (hsub _ AF)).rep hfz hR (hv.mono (λ_ _=>rfl) hS hfz.hdLe)).1
    split at hg
    ·obtain⟨hb,hg⟩:=q16 hg;exact go _ _ (.inl he) hb hg
    ·obtain⟨hb,hg⟩:=q16 hg;exact go _ _ (.inr he) hb hg
    ·exact(qh hg).elim
   ·exact(qh hg).elim
  ·rename_i u;split at hg
   ·rename_i u';obtain⟨hb,hg1⟩:=q16 hg;clear hg;obtain⟨rfl,h1⟩:=qdz hb;refine leaf (x:=.raw u) (λ_=>rfl) ⟨rfl,h1⟩ hf (λp h=>h) (λfz' S' _ _ hS hR=>?_) hg1;rw[hv.qaw];exact .raw _
   ·exact(qh hg).elim
  ·split at hg
   ·rename_i u';obtain⟨hb,hg1⟩:=q16 hg;clear hg;refine leaf (x:=.raw u') (λ_=>rfl) (isFn_one hb) hf (λp h=>h) (λfz' S' _ _ hS hR=>?_) hg1;rw[hv.qaw];exact .raw _
   ·exact(qh hg).elim
  ·split at hg
   ·rename_i s x;obtain⟨hb,hg1⟩:=q16 hg;clear hg;have:=Aw hb;subst this;refine leaf (x:=.ref s x) (λ_=>rfl) rfl hf (λp h=>h) (λfz' S' _ _ hS hR=>?_) hg1;obtain⟨b,o,rfl,q1,q2,_⟩:=hv.qe2;exact(FRep.qg7.2 ⟨b,_,rfl,q1,by simpa using q2⟩).mono (λ_ _=>rfl) hS
   ·exact(qh hg).elim
  ·obtain⟨L,ids,fz',G,h0,h1,h2,h3,h4,h5,h6,h7⟩:=gets_ext h hs hi hG hf hg;exact⟨L,ids,fz',G,h0,h1,h2,h3,h4,h5,h6,λS' hS hR=>⟨v,vs,rfl,h7 S' hS hR⟩⟩
  ·rename_i sz;split at hg
   ·obtain⟨L,ids,fz',G,h0,h1,h2,h3,h4,⟨r,h5⟩,h6,h7⟩:=gets_ext h hs hi.addNone (hG.app (.cons (y:=(⟨0,0,0,true⟩,(some (sz,0),none))) ⟨rfl,rfl⟩ .nil)) hf hg;refine⟨.list sz []::L,ids,fz',G,h0,h1,h2,h3,h4,⟨_,by rw[h5,Ap]⟩,h6,λS' hS hR=>?_⟩;refine⟨⟨0,0,0,true⟩,[],vs,L,by rw[hv.q8z];rfl,rfl,⟨Ak _,by simp⟩,?_⟩;exact h7 S' hS hR
   ·rename_i id;obtain⟨e,he,hg⟩:=q2y hg;split at hg
    ·rename_i s xs;obtain⟨hb,hg⟩:=q16 hg;simp only[Ai]at hb;have:=Aw hb.1;subst this;obtain⟨L,ids,fz',G,h0,h1,h2,h3,h4,⟨r,h5⟩,h6,h7⟩:=gets_ext h hs (hi.add he (.inl ⟨_,_,rfl⟩) hb.2) (hG.app (.cons (y:=(γ id,(some (s,xs.length),none))) ⟨rfl,_,he,rfl⟩ .nil)) hf hg;refine⟨.list s xs::L,ids,fz',G,h0,h1,h2,h3,h4,⟨_,by rw[h5,Ap]⟩,h6,λS' hS hR=>?_⟩;have hid:some id∈ids:=by rw[h5];simp
     have hhd:hdOf (fz'++M) id=some (.vec s xs):=by
      rw[hdOf,Mem.get_append,q66 (λe he'=>qfv h3 id e he' hid)];rw[CI];exact he
     refine⟨γ id,xs,vs,L,?_,rfl,?_,?_⟩
     ·rcases hv.q67 he rfl with⟨_,q⟩ | ⟨_,_,_,_,q,_⟩
      ·rw[q]
      ·cases q
     ·exact hR.head id _ hhd
     ·exact h7 S' hS hR
    ·exact(qh hg).elim
   ·exact(qh hg).elim
  ·rename_i k;split at hg
   ·rename_i id;obtain⟨e,he,hg⟩:=q2y hg;split at hg
    ·rename_i n;obtain⟨hb,hg⟩:=q16 hg;simp only[Ai]at hb;have:=Aw hb.1;subst this;obtain⟨cs,c1,c2,hg1⟩:=qhv hg;obtain⟨hn,vals,te,hb1,hsz,hc⟩:=h.head id _ he;have hcs:All2 (SRep w S γ (hdOf M)) cs vals.toList:=.ofArr (by rw[hsz,c1]) λj s hj=>by
      have hj':j<n:=by rw[<- c1];exact(Ao.1 hj).1
      have q2:=c2 j s hj;obtain⟨s2,q3,q4,q5⟩:=hc j hj';rw[AJ,q3]at q2;cases q2;exact q5
     obtain⟨L,ids,fz',G,h0,h1,h2,h3,h4,⟨r,h5⟩,h6,h7⟩:=gets_ext h (hcs.app hs) (hi.add he (.inr (.inl ⟨_,rfl⟩)) hb.2) (hG.app (.cons (y:=(γ id,(none,some (.n n)))) ⟨rfl,_,he,rfl⟩ .nil)) hf hg1;refine⟨L,ids,fz',G,h0,h1,h2,h3,h4,⟨_,by rw[h5,Ap]⟩,h6,λS' hS hR=>?_⟩;refine⟨γ id,vals,te,vs,by rw[hv.qbr he],hn,hb1,hsz,?_⟩;exact h7 S' hS hR
    ·exact(qh hg).elim
   ·exact(qh hg).elim
  ·rename_i j;split at hg
   ·rename_i id id' hacc;obtain⟨hb,hg1⟩:=q16 hg;have:=Aw hb;subst this;obtain⟨L,ids,fz',G,h0,h1,h2,h3,h4,h5,h6,h7⟩:=gets_ext h hs hi hG hf hg1;refine⟨L,ids,fz',G,h0,h1,h2,h3,h4,h5,h6,λS' hS hR=>?_⟩;obtain⟨e,he,hk⟩:=hi.live j id hacc;cases hv with
    |@ptr _ _ e' n h' he' =>
     obtain⟨⟨g,sh⟩,q1,q2,e2,q3,q4⟩:=hG.get j _ hacc;simp only at q2 q4;subst q2;rw[h']at q3;cases q3;rw[he']at q4;have hob:e'=.obj n:=by cases e' <;> simp[Ent.ob]at he' <;> (subst he';rfl)
     subst hob;exact⟨γ id,(Ent.obj n).row,n,vs,by rw[q1,q4],(h.head id _ h').1,rfl,h7 S' hS hR⟩
    |tomb hs h' =>
     simp[SV.refId]at hs;subst hs;rw[he]at h';cases h';rcases hk with⟨_,_,q⟩ | ⟨_,q⟩ | ⟨_,_,_,q⟩ <;> cases q
   ·exact(qh hg).elim
  ·rename_i k;split at hg
   ·rename_i cs;obtain⟨hb,hg1⟩:=q16 hg;have:=Aw hb;subst this;obtain⟨ws,rfl,hl,hr⟩:=hv.qan;obtain⟨L,ids,fz',G,h0,h1,h2,h3,h4,h5,h6,h7⟩:=gets_ext h ((All2.ofArr hl hr).app hs) hi hG hf hg1;exact⟨L,ids,fz',G,h0,h1,h2,h3,h4,h5,h6,λS' hS hR=>⟨ws,vs,rfl,hl,h7 S' hS hR⟩⟩
   ·exact(qh hg).elim
  ·rename_i fn k;split at hg
   ·rename_i g g' cs;obtain⟨hb,hg1⟩:=q16 hg;simp only[Ai]at hb;have e1:=Aw hb.1;have e2:=Aw hb.2;subst e1;subst e2;obtain⟨fs,ws,rfl,hl1,hl2,_,hr⟩:=hv.clo_inv;obtain⟨L,ids,fz',G,h0,h1,h2,h3,h4,h5,h6,h7⟩:=gets_ext h ((All2.ofArr hl2 hr).app hs) hi hG hf hg1;refine⟨L,ids,fz',G,h0,h1,h2,h3,h4,h5,h6,λS' hS hR=>⟨ws,vs,?_,hl2,h7 S' hS hR⟩⟩;have:fs=#[]:=by apply De;simpa using hl1
    rw[this]
   ·exact(qh hg).elim
  ·rename_i kag ks z;split at hg
   ·rename_i id;obtain⟨e,he,hg⟩:=q2y hg;split at hg
    ·rename_i kag' ks' z';obtain⟨hb,hg1⟩:=q16 hg;simp only[Ai]at hb;obtain⟨q1,q2,q3⟩:=qfw hb.1;subst q1;subst q2;subst q3;obtain⟨e0,he0,hg2⟩:=q6u hg1;clear hg hg1;split at hg2
     ·rename_i es clk;obtain⟨L,ids,fz',G,h0,h1,h2,h3,h4,⟨r,h5⟩,h6,h7⟩:=gets_ext h hs (hi.add he (.inr (.inr ⟨_,_,_,rfl⟩)) hb.2) (hG.app (.cons (y:=(γ id,(none,some (.m kag ks z)))) ⟨rfl,_,he,rfl⟩ .nil)) hf hg2;refine⟨.list 3 es::.int .i64 clk::L,ids,fz',G,h0,h1,h2,h3,h4,⟨_,by rw[h5,Ap]⟩,h6,λS' hS hR=>?_⟩;obtain⟨m1,m2⟩:=h1.mapH he;obtain⟨hn,es1,clk1,es',clk',d0,_,_,hm⟩:=hR.head id _ m1;rw[m2 0,he0]at d0;cases d0;exact⟨γ id,es,clk,vs,L,by rw[hv.mp_inv he],rfl,hn,hm,h7 S' hS hR⟩
     ·exact(qh hg2).elim
    ·exact(qh hg).elim
   ·exact(qh hg).elim
 termination_by T=>T.length
end
end
section
def NInj(nm:List Nat):Prop:=∀(i j id:Nat),nm[i]?=some id->nm[j]?=some id->i=j
theorem qc8{id:Nat}{p:Key×Ent}:∀ {off:Nat} {vs:List SV},p∈wrCells id off vs->∃j s,vs[j]?=some s/\p=(.cell id (off+j),.sv s)
 |off,[],h=>by simp[wrCells]at h
 |off,v::vs,h=>by
  rw[wrCells]at h;rcases Ar.1 h with rfl | h
  ·exact⟨0,v,rfl,rfl⟩
  ·obtain⟨j,s,h1,h2⟩:=qc8 h;exact⟨j+1,s,by simpa using h1,by rw[h2];congr 2;omega⟩
def q4e(id:Nat)(k:Key):Prop:=k=.head id\/∃o,k=.cell id o
theorem q4e.inj{i j:Nat}{k:Key}(h:q4e i k)(h':q4e j k):i=j:=by
 rcases h with rfl | ⟨o,rfl⟩ <;> rcases h' with h' | ⟨o',h'⟩ <;> cases h' <;> rfl
theorem bld_keys{nm:List Nat}(hn:NInj nm):∀ {T:List Tok} {j:Nat} {L:List FV} {us:List (Key×Ent)} {svs:List SV} {r:List FV},bld nm j T L=some (us,svs,r) ->
  (∀p,p∈us->∃i id,j<=i/\nm[i]?=some id/\q4e id p.1)/\∀p,p∈us->Mem.get p.1 us=some p.2
 |[],j,L,us,svs,r,h=>by
  simp only[bld,AH,Bv]at h;obtain⟨rfl,_⟩:=h;exact⟨λp hp=>by simp at hp,λp hp=>by simp at hp⟩
 |t::T,j,L,us,svs,r,h=>by
  unfold bld at h;have leaf:∀ {L':List FV} {x:SV},(match bld nm j T L' with | some (us,vs,r)=>some (us,x::vs,r) | none=>none)=some (us,svs,r) ->
    (∀p,p∈us->∃i id,j<=i/\nm[i]?=some id/\q4e id p.1)/\∀p,p∈us->Mem.get p.1 us=some p.2:=by
   intro L' x h1;split at h1
   ·rename_i us' vs' r' he;cases h1;exact bld_keys hn he
   ·simp at h1
  have leaf':∀ {L':List FV} {g:List SV->List SV},(match bld nm j T L' with | some (us,vs,r)=>some (us,g vs,r) | none=>none)=some (us,svs,r) ->
    (∀p,p∈us->∃i id,j<=i/\nm[i]?=some id/\q4e id p.1)/\∀p,p∈us->Mem.get p.1 us=some p.2:=by
   intro L' x h1;split at h1
   ·rename_i us' vs' r' he;cases h1;exact bld_keys hn he
   ·simp at h1
  split at h
  ·split at h
   ·exact leaf h
   ·simp at h
  ·split at h
   ·exact leaf h
   ·simp at h
  ·split at h
   ·exact leaf h
   ·simp at h
  ·split at h
   ·exact leaf h
   ·simp at h
  ·split at h
   ·exact leaf h
   ·simp at h
  ·split at h
   ·exact leaf h
   ·simp at h
  ·split at h
   ·exact leaf h
   ·simp at h
  ·exact leaf h
  ·split at h
   ·rename_i sz xs L' id hid;split at h
    ·rename_i us' vs' r' he;cases h;obtain⟨k1,k2⟩:=bld_keys hn he;refine⟨λp hp=>?_,λp hp=>?_⟩
     ·rcases Ar.1 hp with rfl | hp
      ·exact⟨j,id,Ak _,hid,.inl rfl⟩
      ·obtain⟨i,id',q1,q2,q3⟩:=k1 p hp;exact⟨i,id',by omega,q2,q3⟩
     ·rcases Ar.1 hp with rfl | hp
      ·rw[Mem.qj,if_pos rfl]
      ·obtain⟨i,id',q1,q2,q3⟩:=k1 p hp;rw[Mem.qj,if_neg,k2 p hp];intro q;have:=q4e.inj q3 (.inl q);subst this;have:=hn i j _ q2 hid;omega
    ·simp at h
   ·simp at h
  ·rename_i k;split at h
   ·rename_i id hid;split at h
    ·rename_i us' vs' r' he;cases h;obtain⟨k1,k2⟩:=bld_keys hn he;have hne:∀p,p∈us'->¬ q4e id p.1:=λp hp q=>by
      obtain⟨i,id',q1,q2,q3⟩:=k1 p hp;have:=q4e.inj q3 q;subst this;have:=hn i j _ q2 hid;omega
     refine⟨λp hp=>?_,λp hp=>?_⟩
     ·rcases Ar.1 hp with rfl | hp
      ·exact⟨j,id,Ak _,hid,.inl rfl⟩
      ·rcases BL.1 hp with hp | hp
       ·obtain⟨o,s,_,rfl⟩:=qc8 hp;exact⟨j,id,Ak _,hid,.inr ⟨_,rfl⟩⟩
       ·obtain⟨i,id',q1,q2,q3⟩:=k1 p hp;exact⟨i,id',by omega,q2,q3⟩
     ·rcases Ar.1 hp with rfl | hp
      ·rw[Mem.qj,if_pos rfl]
      ·rcases BL.1 hp with hp | hp
       ·obtain⟨o,s,q1,rfl⟩:=qc8 hp;rw[Mem.qj,if_neg (by simp),Mem.get_append,qah];have:=(Ao.1 q1).1;rw[if_pos ⟨rfl,by omega,by omega⟩];simp only[AJ,Em];rw[q1];rfl
       ·have hk:=hne p hp;rw[Mem.qj,if_neg (λq=>hk (.inl q)),Mem.get_append];have:Mem.get p.1 (wrCells id 0 (vs'.take k))=none:=by
         apply q66;intro e hm;obtain⟨o,s,_,q⟩:=qc8 hm;exact hk (.inr ⟨_,congrArg Prod.fst q⟩)
        rw[this,k2 p hp];rfl
    ·simp at h
   ·simp at h
  ·split at h
   ·exact leaf h
   ·simp at h
  ·rename_i k;exact leaf' (g:=λvs=>.agg (vs.take k)::vs.drop k) h
  ·rename_i fn k;exact leaf' (g:=λvs=>.clo fn [] (vs.take k)::vs.drop k) h
  ·rename_i kag ks z;split at h
   ·rename_i sz es k clk L' id hid;split at h
    ·rename_i us' vs' r' he;cases h;obtain⟨k1,k2⟩:=bld_keys hn he;have hne:∀p,p∈us'->¬ q4e id p.1:=λp hp q=>by
      obtain⟨i,id',q1,q2,q3⟩:=k1 p hp;have:=q4e.inj q3 q;subst this;have:=hn i j _ q2 hid;omega
     refine⟨λp hp=>?_,λp hp=>?_⟩
     ·rcases Ar.1 hp with rfl | hp
      ·exact⟨j,id,Ak _,hid,.inl rfl⟩
      rcases Ar.1 hp with rfl | hp
      ·exact⟨j,id,Ak _,hid,.inr ⟨_,rfl⟩⟩
      rcases Ar.1 hp with rfl | hp
      ·exact⟨j,id,Ak _,hid,.inr ⟨_,rfl⟩⟩
      ·obtain⟨i,id',q1,q2,q3⟩:=k1 p hp;exact⟨i,id',by omega,q2,q3⟩
     ·rcases Ar.1 hp with rfl | hp
      ·rw[Mem.qj,if_pos rfl]
      rcases Ar.1 hp with rfl | hp
      ·rw[Mem.qj,if_neg (by simp),Mem.qj,if_pos rfl]
      rcases Ar.1 hp with rfl | hp
      ·rw[Mem.qj,if_neg (by simp),Mem.qj,if_neg (by simp),Mem.qj,if_pos rfl]
      ·have hk:=hne p hp;rw[Mem.qj,if_neg (λq=>hk (.inl q)),Mem.qj,if_neg (λq=>hk (.inr ⟨_,q⟩)),Mem.qj,if_neg (λq=>hk (.inr ⟨_,q⟩)),k2 p hp]
    ·simp at h
   ·simp at h
theorem TRep.pre{w:World}{S:Nat->Prop}:∀ {T:List Tok} {V:List Value} {L:List FV} {acc fin:GA},TRep w S T V L acc fin->∃r,fin=acc++r
 |[],V,L,acc,fin,h=>⟨[],by rw[h.2.2];simp⟩
 |t::T,V,L,acc,fin,h=>by
  cases t with
  |skip=>obtain⟨v,V',_,h⟩:=h;exact h.pre
  |own sz=>obtain⟨g,xs,V',L',_,_,_,h⟩:=h;obtain⟨r,hr⟩:=h.pre;exact⟨_,by rw[hr,Ap]⟩
  |obj k=>obtain⟨g,vals,e,V',_,_,_,_,h⟩:=h;obtain⟨r,hr⟩:=h.pre;exact⟨_,by rw[hr,Ap]⟩
  |ref j=>obtain⟨g,r,k,V',_,_,_,h⟩:=h;exact h.pre
  |agg k=>obtain⟨cs,V',_,_,h⟩:=h;exact h.pre
  |clo fn k=>obtain⟨cs,V',_,_,h⟩:=h;exact h.pre
  |mapt kag ks z=>obtain⟨g,es,clk,V',L',_,_,_,_,h⟩:=h;obtain⟨r,hr⟩:=h.pre;exact⟨_,by rw[hr,Ap]⟩
  |_=>obtain⟨v,V',x,L',_,_,_,_,h⟩:=h;exact h.pre
 termination_by T=>T.length
theorem qtn{n:Nat}{t:Tok}{T:List Tok}(h:flatOk n (t::T)=true):(n=0\/((∀k,t≠.agg k)/\t≠.skip)) /\
  (t≠.skip->(∀k,t≠.agg k)->(∀fn k,t≠.clo fn k)->∀k,t=.obj k->flatOk (n-1+k) T=true)/\(arity t=0->flatOk (n-1) T=true)/\(∀fn k,t=.clo fn k->∃m,n-1<=m-(if n=0 then 0 else k)/\flatOk m T=true/\(n≠0->m=n-1+k))/\(∀k,t=.agg k->n=0/\flatOk 0 T=true):=by
 cases n with
 |zero =>
  refine⟨.inl rfl,λ_ _ _ k hk=>?_,λha=>?_,λfn k hk=>?_,λk hk=>?_⟩
  ·subst hk;simpa[flatOk]using h
  ·cases t <;> first | (simpa[flatOk]using h) | (simp only[arity]at ha;subst ha;simpa[flatOk]using h)
  ·subst hk;exact⟨0,by simp,by simpa[flatOk]using h,λh=>absurd rfl h⟩
  ·subst hk;exact⟨rfl,by simpa[flatOk]using h⟩
 |succ n =>
  refine⟨.inr ⟨λk hk=>by subst hk;simp[flatOk]at h,λhk=>by subst hk;simp[flatOk]at h⟩,λ_ _ _ k hk=>?_,λha=>?_,λfn k hk=>?_,λk hk=>?_⟩
  ·subst hk;simpa[flatOk,arity]using h
  ·cases t <;> first | (simp[flatOk]at h;done) | (simpa[flatOk,arity]using h) | (simp only[arity]at ha;subst ha;simpa[flatOk,arity]using h)
  ·subst hk;refine⟨n+k,by simp,by simpa[flatOk,arity]using h,λ_=>rfl⟩
  ·subst hk;simp[flatOk]at h
section
variable {w:World} {S:Nat->Prop}
theorem drop_flat{svs:List SV}{n k:Nat}(h:∀(i:Nat) (s:SV),i<n+k->svs[i]?=some s->s.flat=true):∀(i:Nat) (s:SV),i<n->(svs.drop k)[i]?=some s->s.flat=true:=λi s hi hs=>by
 rw[CA]at hs;exact h (k+i) s (by omega) hs
theorem qc9{svs:List SV}{n:Nat}{x:SV}(hx:n=0\/x.flat=true)(h:∀(i:Nat) (s:SV),i<n-1->svs[i]?=some s->s.flat=true):∀(i:Nat) (s:SV),i<n->(x::svs)[i]?=some s->s.flat=true:=λi s hi hs=>by
 cases i with
 |zero =>
  simp at hs;subst hs;rcases hx with hx | hx
  ·omega
  ·exact hx
 |succ i=>exact h i s (by omega) (by simpa using hs)
theorem qa0{t:Tok}{x:FV}(h:leafT t x):x.flat=true:=by
 cases t <;> cases x <;> simp_all[leafT,FV.flat]
theorem q7n{nm:List Nat}{M':Mem}{γ':Nat->Gh}:∀ {T:List Tok} {V:List Value} {L:List FV} {acc fin:GA} {us:List (Key×Ent)} {svs:List SV} {r:List FV} {n:Nat},
  TRep w S T V L acc fin->bld nm acc.length T L=some (us,svs,r)->(∀p,p∈us->Mem.get p.1 M'=some p.2)->(∀(i:Nat) (g:Gh) (k:Sh) (id:Nat),fin[i]?=some (g,k)->nm[i]?=some id->γ' id=g) ->
  (∀(i:Nat) (g:Gh) (q:Option (Nat×Nat)) (k:Nat),acc[i]?=some (g,(q,some (.n k)))->∀id,nm[i]?=some id->hdOf M' id=some (.obj k))->flatOk n T=true ->
  r=[]/\All2 (SRep w S γ' (hdOf M')) svs V/\(∀(i:Nat) (s:SV),i<n->svs[i]?=some s->s.flat=true) /\
   (∀id e,(Key.head id,e)∈us->ORep w S γ' M' id e/\∃i g,acc.length<=i/\nm[i]?=some id/\fin[i]?=some (g,(e.row,e.ob))/\((∃s xs,e=.vec s xs)\/(∃n,e=.obj n)\/∃kag ks z,e=.mapH kag ks z))/\∀(i:Nat) (x:Gh×Sh),acc.length<=i->fin[i]?=some x->∃id e,nm[i]?=some id/\(Key.head id,e)∈us
 |[],V,L,acc,fin,us,svs,r,n,h,hb,hu,hγ,hacc,hfl=>by
  obtain⟨rfl,rfl,rfl⟩:=h;simp only[bld,AH,Bv]at hb;obtain⟨rfl,rfl,rfl⟩:=hb;exact⟨rfl,.nil,λi s _ h=>by simp at h,λid e h=>by simp at h,λi x h1 h2=>by have:=(Ao.1 h2).1;omega⟩
 |t::T,V,L,acc,fin,us,svs,r,n,h,hb,hu,hγ,hacc,hfl=>by
  obtain⟨f1,f2,f3,f4,f5⟩:=qtn hfl;have leaf:∀ {v:Value} {V':List Value} {L':List FV} {x:SV},V=v::V'->TRep w S T V' L' acc fin->SRep w S γ' (hdOf M') x v->(n=0\/x.flat=true)->arity t=0 ->
    (match bld nm acc.length T L' with | some (us,vs,r)=>some (us,x::vs,r) | none=>none)=some (us,svs,r) ->
    r=[]/\All2 (SRep w S γ' (hdOf M')) svs V/\(∀(i:Nat) (s:SV),i<n->svs[i]?=some s->s.flat=true) /\
     (∀id e,(Key.head id,e)∈us->ORep w S γ' M' id e/\∃i g,acc.length<=i/\nm[i]?=some id/\fin[i]?=some (g,(e.row,e.ob))/\((∃s xs,e=.vec s xs)\/(∃n,e=.obj n)\/∃kag ks z,e=.mapH kag ks z))/\∀(i:Nat) (x:Gh×Sh),acc.length<=i->fin[i]?=some x->∃id e,nm[i]?=some id/\(Key.head id,e)∈us:=by
   intro v V' L' x hV hT hx hxf ha h1;subst hV;split at h1
   ·rename_i us' vs' r' he;cases h1;obtain⟨k1,k2,k3,k4,k5⟩:=q7n hT he hu hγ hacc (f3 ha);exact⟨k1,.cons hx k2,qc9 hxf k3,k4,k5⟩
   ·simp at h1
  have leafL:∀ {v:Value} {V':List Value} {x:FV} {L':List FV},V=v::V'->L=x::L'->TRep w S T V' L' acc fin->FRep w S x v->x.flat=true->arity t=0 ->
    (match(generalizing:=false) L with | x::L=>(match bld nm acc.length T L with | some (us,vs,r)=>some (us,SV.fv x::vs,r) | none=>none) | []=>none)=some (us,svs,r) ->
    r=[]/\All2 (SRep w S γ' (hdOf M')) svs V/\(∀(i:Nat) (s:SV),i<n->svs[i]?=some s->s.flat=true) /\
     (∀id e,(Key.head id,e)∈us->ORep w S γ' M' id e/\∃i g,acc.length<=i/\nm[i]?=some id/\fin[i]?=some (g,(e.row,e.ob))/\((∃s xs,e=.vec s xs)\/(∃n,e=.obj n)\/∃kag ks z,e=.mapH kag ks z))/\∀(i:Nat) (x:Gh×Sh),acc.length<=i->fin[i]?=some x->∃id e,nm[i]?=some id/\(Key.head id,e)∈us:=by
   intro v V' x L' hV hL hT hx hxf ha h1;subst hL;exact leaf hV hT (.fv hx) (.inr hxf) ha h1
  cases t with
  |int k=>obtain⟨v,V',x,L',h1,h2,h3,h4,h5⟩:=h;exact leafL h1 h2 h5 h4 (qa0 h3) rfl hb
  |bool=>obtain⟨v,V',x,L',h1,h2,h3,h4,h5⟩:=h;exact leafL h1 h2 h5 h4 (qa0 h3) rfl hb
  |str=>obtain⟨v,V',x,L',h1,h2,h3,h4,h5⟩:=h;exact leafL h1 h2 h5 h4 (qa0 h3) rfl hb
  |lst sz=>obtain⟨v,V',x,L',h1,h2,h3,h4,h5⟩:=h;exact leafL h1 h2 h5 h4 (qa0 h3) rfl hb
  |raw u=>obtain⟨v,V',x,L',h1,h2,h3,h4,h5⟩:=h;exact leafL h1 h2 h5 h4 (qa0 h3) rfl hb
  |fn=>obtain⟨v,V',x,L',h1,h2,h3,h4,h5⟩:=h;exact leafL h1 h2 h5 h4 (qa0 h3) rfl hb
  |fpt sz =>
   obtain⟨v,V',x,L',h1,h2,h3,h4,h5⟩:=h;cases x <;> simp only[leafT]at h3;obtain⟨b,o,rfl,q1,q2⟩:=FRep.qg7.1 h4;subst h2;refine leaf (x:=.fp _ [_] 0 0) h1 h5 ?_ (.inr rfl) rfl hb;have:=SRep.fp (γ:=γ') (hd:=hdOf M') (c:=0) q1 q2 (i:=0) (by simp);simpa using this
  |skip =>
   obtain⟨v,V',h1,h2⟩:=h;exact leaf h1 h2 .dead (f1.imp id λq=>absurd rfl q.2) rfl hb
  |own sz =>
   obtain⟨g,xs,V',L',rfl,rfl,hv,hT⟩:=h;simp only[bld]at hb;split at hb
   ·rename_i s xs' L2 id hL hid;cases hL;split at hb
    ·rename_i us' vs' r' he;cases hb;have hlen:(acc++[(g,((some (sz,xs.length),none):Sh))]).length=acc.length+1:=by simp
     obtain⟨rr,hrr⟩:=hT.pre;have hfin:fin[acc.length]?=some (g,(some (sz,xs.length),none)):=by rw[hrr];simp
     have hg:γ' id=g:=hγ _ g _ id hfin hid;have hh:hdOf M' id=some (.vec sz xs):=hu _ AF
     obtain⟨k1,k2,k3,k4,k5⟩:=q7n hT (by rw[hlen];exact he) (λp hp=>hu p (AA _ hp)) hγ (λi g' q' k hi=>by
      rw[Cq]at hi;split at hi
      ·exact hacc i g' q' k hi
      ·rename_i hlt;have h0:=(Ao.1 hi).1;simp at h0;rw[show i-acc.length=0 by omega]at hi
       simp at hi) (f3 rfl)
     refine⟨k1,.cons ?_ k2,qc9 (.inr rfl) k3,λi e hm=>?_,λi x hi1 hi2=>?_⟩
     ·have:=SRep.sl (w:=w) (S:=S) (γ:=γ') hh (sz:=sz) (len:=xs.length) rfl;rwa[hg]at this
     ·rcases Ar.1 hm with hm | hm
      ·cases hm;refine⟨?_,acc.length,g,Ak _,hid,hfin,.inl ⟨_,_,rfl⟩⟩;show VRep w S (γ' id) sz xs;rw[hg];exact hv
      ·obtain⟨q1,i',g',q2,q3⟩:=k4 i e hm;exact⟨q1,i',g',by simp at q2;omega,q3⟩
     ·by_cases hi3:i=acc.length
      ·subst hi3;exact⟨id,_,hid,AF⟩
      ·obtain⟨id',e',q1,q2⟩:=k5 i x (by simp;omega) hi2;exact⟨id',e',q1,AA _ q2⟩
    ·simp at hb
   ·simp at hb
  |obj k =>
   obtain⟨g,vals,te,V',rfl,hnil,hheap,hsz,hT⟩:=h;simp only[bld]at hb;split at hb
   ·rename_i id hid;split at hb
    ·rename_i us' vs' r' he;cases hb;have hlen:(acc++[(g,((none,some (.n k)):Sh))]).length=acc.length+1:=by simp
     obtain⟨rr,hrr⟩:=hT.pre;have hfin:fin[acc.length]?=some (g,(none,some (.n k))):=by rw[hrr];simp
     have hg:γ' id=g:=hγ _ g _ id hfin hid;have hh:hdOf M' id=some (.obj k):=hu _ AF;have hfk:flatOk (n-1+k) T=true:=f2 (by simp) (by simp) (by simp) k rfl
     obtain⟨k1,k2,k3,k4,k5⟩:=q7n hT (by rw[hlen];exact he) (λp hp=>hu p (AA _ (DM _ hp))) hγ (λi g' q' k' hi id' hid'=>by
      rw[Cq]at hi;split at hi
      ·exact hacc i g' q' k' hi id' hid'
      ·rename_i hlt;have h0:=(Ao.1 hi).1;simp at h0;have h1:i=acc.length:=by omega
       subst h1;simp at hi;rw[hid]at hid';cases hid'
       rw[hh,hi.2.2]) hfk
     have hall:All2 (SRep w S γ' (hdOf M')) (vs'.take k) vals.toList:=by
      have:=k2.take k;rwa[Fs (by rw[Bw,hsz])]at this
     refine⟨k1,.cons ?_ ?_,qc9 (.inr rfl) (drop_flat k3),λi e hm=>?_,λi x hi1 hi2=>?_⟩
     ·have:=SRep.ptr (w:=w) (S:=S) (γ:=γ') (off:=0) hh rfl;rwa[hg]at this
     ·have:=k2.drop k;rwa[Ez (by rw[Bw,hsz])]at this
     ·rcases Ar.1 hm with hm | hm
      ·cases hm;refine⟨?_,acc.length,g,Ak _,hid,hfin,.inr (.inl ⟨_,rfl⟩)⟩;refine⟨by rw[hg];exact hnil,vals,te,by rw[hg];exact hheap,hsz,λj hj=>?_⟩;obtain⟨hl,hr⟩:=hall.toArr;have hjl:j<(vs'.take k).length:=by rw[<- hl,hsz];exact hj
       have hs:(vs'.take k)[j]?=some (vs'.take k)[j]:=Ag hjl;refine⟨_,?_,?_,hr j _ hs⟩
       ·have:(Key.cell id j,Ent.sv (vs'.take k)[j])∈wrCells id 0 (vs'.take k):=by
         have hw:∀(off:Nat) (vs:List SV) (j:Nat) (s:SV),vs[j]?=some s->(Key.cell id (off+j),Ent.sv s)∈wrCells id off vs:=by
          intro off vs
          induction vs generalizing off with
          |nil=>intro j s h;simp at h
          |cons v vs ih =>
           intro j s h;rw[wrCells];cases j with
           |zero=>simp at h;subst h;exact AF
           |succ j=>exact AA _ (by have:=ih (off+1) j s (by simpa using h);rwa[Bl,Bo 1 j]at this)
         have:=hw 0 _ j _ hs;rwa[AJ]at this
        exact hu _ (AA _ (Er _ this))
       ·exact k3 j _ (by omega) (by rw[CN hj]at hs;exact hs)
      ·rcases BL.1 hm with hm | hm
       ·obtain⟨_,_,_,q⟩:=qc8 hm;cases q
       ·obtain⟨q1,i',g',q2,q3⟩:=k4 i e hm;exact⟨q1,i',g',by simp at q2;omega,q3⟩
     ·by_cases hi3:i=acc.length
      ·subst hi3;exact⟨id,_,hid,AF⟩
      ·obtain⟨id',e',q1,q2⟩:=k5 i x (by simp;omega) hi2;exact⟨id',e',q1,AA _ (DM _ q2)⟩
    ·simp at hb
   ·simp at hb
  |ref j =>
   obtain⟨g,q,k,V',hj,_,hV,hT⟩:=h;simp only[bld]at hb;split at hb
   ·rename_i id hid;have hh:=hacc j g q k hj id hid;obtain⟨rr,hrr⟩:=hT.pre;have hfin:fin[j]?=some (g,(q,some (.n k))):=by rw[hrr,Da (Ao.1 hj).1,hj]
    have hg:γ' id=g:=hγ _ g _ id hfin hid;refine leaf hV hT ?_ (.inr rfl) rfl hb;have:=SRep.ptr (w:=w) (S:=S) (γ:=γ') (off:=0) hh rfl;rwa[hg]at this
   ·simp at hb
  |agg k =>
   obtain⟨cs,V',rfl,hsz,hT⟩:=h;simp only[bld]at hb;split at hb
   ·rename_i us' vs' r' he;cases hb;obtain⟨rfl,hf0⟩:=f5 k rfl;obtain⟨k1,k2,k3,k4,k5⟩:=q7n hT he hu hγ hacc hf0;refine⟨k1,.cons ?_ ?_,λi s h=>by omega,k4,k5⟩
    ·have:=k2.take k;rw[Fs (by rw[Bw,hsz])]at this;obtain⟨q1,q2⟩:=this.toArr;exact .agg q1 q2
    ·have:=k2.drop k;rwa[Ez (by rw[Bw,hsz])]at this
   ·simp at hb
  |clo fn k =>
   obtain⟨cs,V',rfl,hsz,hT⟩:=h;simp only[bld]at hb;split at hb
   ·rename_i us' vs' r' he;cases hb;obtain⟨m,hm1,hm2,hm3⟩:=f4 fn k rfl;obtain⟨k1,k2,k3,k4,k5⟩:=q7n hT he hu hγ hacc hm2;refine⟨k1,.cons ?_ ?_,qc9 (.inr rfl) (λi s hi hs=>?_),k4,k5⟩
    ·have:=k2.take k;rw[Fs (by rw[Bw,hsz])]at this;obtain⟨q1,q2⟩:=this.toArr;exact .clo rfl q1 (λj s h=>by simp at h) q2
    ·have:=k2.drop k;rwa[Ez (by rw[Bw,hsz])]at this
    ·rw[CA]at hs;have:n≠0:=by omega
     have:=hm3 this;exact k3 (k+i) s (by omega) hs
   ·simp at hb
  |mapt kag ks z =>
   obtain⟨g,es,clk,V',L',rfl,rfl,hnil,hm,hT⟩:=h;simp only[bld]at hb;split at hb
   ·rename_i s es' k clk' L2 id hL hid;cases hL;split at hb
    ·rename_i us' vs' r' he;cases hb;have hlen:(acc++[(g,((none,some (.m kag ks z)):Sh))]).length=acc.length+1:=by simp
     obtain⟨rr,hrr⟩:=hT.pre;have hfin:fin[acc.length]?=some (g,(none,some (.m kag ks z))):=by rw[hrr];simp
     have hg:γ' id=g:=hγ _ g _ id hfin hid;have hh:hdOf M' id=some (.mapH kag ks z):=hu _ AF;have hc0:Mem.get (.cell id 0) M'=some (.map es clk):=hu (.cell id 0,.map es clk) (by simp);have hc1:Mem.get (.cell id 1) M'=some (.map es clk):=hu (.cell id 1,.map es clk) (by simp)
     obtain⟨k1,k2,k3,k4,k5⟩:=q7n hT (by rw[hlen];exact he) (λp hp=>hu p (AA _ (AA _ (AA _ hp)))) hγ (λi g' q' k hi=>by
      rw[Cq]at hi;split at hi
      ·exact hacc i g' q' k hi
      ·rename_i hlt;have h0:=(Ao.1 hi).1;simp at h0;rw[show i-acc.length=0 by omega]at hi
       simp at hi) (f3 rfl)
     refine⟨k1,.cons ?_ k2,qc9 (.inr rfl) k3,λi e hm'=>?_,λi x hi1 hi2=>?_⟩
     ·have:=SRep.mp (w:=w) (S:=S) (γ:=γ') hh rfl;rwa[hg]at this
     ·rcases Ar.1 hm' with hm' | hm'
      ·cases hm';exact⟨⟨by rw[hg];exact hnil,es,clk,es,clk,hc0,hc1,λ_=>rfl,by rw[hg];exact hm⟩,acc.length,g,Ak _,hid,hfin,.inr (.inr ⟨_,_,_,rfl⟩)⟩
      rcases Ar.1 hm' with hm' | hm'
      ·cases hm'
      rcases Ar.1 hm' with hm' | hm'
      ·cases hm'
      ·obtain⟨q1,i',g',q2,q3⟩:=k4 i e hm';exact⟨q1,i',g',by simp at q2;omega,q3⟩
     ·by_cases hi3:i=acc.length
      ·subst hi3;exact⟨id,_,hid,AF⟩
      ·obtain⟨id',e',q1,q2⟩:=k5 i x (by simp;omega) hi2;exact⟨id',e',q1,AA _ (AA _ (AA _ q2))⟩
    ·simp at hb
   ·simp at hb
 termination_by T=>T.length
end
end
section
structure GOk(X:Cx)(w:World)(S:Nat->Prop)(fin:GA):Prop where
 own:∀(i:Nat) (g:Gh) (sh:Sh),fin[i]?=some (g,sh)->g.nil=false->g.blk<w.heap.size/\¬ S g.blk/\(X.W0 g.blk\/X.w0.heap.size<=g.blk)
 inj:∀(i j:Nat) (g g':Gh) (sh sh':Sh),fin[i]?=some (g,sh)->fin[j]?=some (g',sh')->g.nil=false->g'.nil=false->g.blk=g'.blk->i=j
theorem All2.getR{α β:Type}{R:α->β->Prop}{xs:List α}{ys:List β}(h:All2 R xs ys):∀(j:Nat) (y:β),ys[j]?=some y->∃x,xs[j]?=some x/\R x y:=by
 induction h with
 |nil=>intro j x hj;simp at hj
 |cons h _ ih =>
  intro j x hj;cases j with
  |zero=>simp at hj;subst hj;exact⟨_,rfl,h⟩
  |succ j=>simpa using ih j x (by simpa using hj)
theorem qft{M:Mem}{ids:List (Option Nat)}{fz:List (Key×Ent)}(h:q4o ids fz=true){id:Nat}(hid:some id∈ids):hdOf (fz++M) id=hdOf M id:=by
 rw[hdOf,Mem.get_append,q66 (λe he'=>qfv h id e he' hid)];rw[CI];rfl
theorem GOk.of{X:Cx}{M:Mem}{a:Act}{w:World}{γ:Nat->Gh}{S:Nat->Prop}{ids:List (Option Nat)}{fz:List (Key×Ent)}{G:GA}(hR:Rel X (fz++M) a w γ S)(hG:All2 (GRel γ M) ids G)(hi:q53 M ids)
  (ha:q4o ids fz=true):GOk X w S G:=by
 have key:∀(i:Nat) (g:Gh) (sh:Sh),G[i]?=some (g,sh)->g.nil=false->∃id e,ids[i]?=some (some id)/\g=γ id/\hdOf (fz++M) id=some e/\Owned γ id e:=λi g sh h hn=>by
  obtain⟨x,h1,h2⟩:=hG.getR i _ h;cases x with
  |none=>obtain⟨h2,_⟩:=h2;simp only at h2;subst h2;simp at hn
  |some id =>
   obtain⟨h2,e,h3,h4⟩:=h2;simp only at h2;subst h2;refine⟨id,e,h1,rfl,by rw[qft ha (AS h1)];exact h3,?_⟩;obtain⟨e',q1,q2⟩:=hi.live i id h1;rw[h3]at q1;cases q1;rcases q2 with⟨s,xs,rfl⟩ | ⟨n,rfl⟩ | ⟨_,_,_,rfl⟩
   ·exact hn
   ·trivial
   ·trivial
 refine⟨λi g sh h hn=>?_,λi j g g' sh sh' h h' hn hn' hb=>?_⟩
 ·obtain⟨id,e,_,rfl,h1,h2⟩:=key i g sh h hn;exact hR.own id e h1 h2
 ·obtain⟨id,e,q0,rfl,q1,q2⟩:=key i g sh h hn;obtain⟨id',e',p0,rfl,p1,p2⟩:=key j g' sh' h' hn';have:=hR.inj id e id' e' q1 p1 q2 p2 hb;subst this;exact hi.inj i j _ q0 p0
def ghAt:List Nat->GA->Nat->Gh
 |n::nm,g::fin,id=>if id=n then g.1 else ghAt nm fin id
 |_,_,_=>⟨0,0,0,true⟩
theorem NInj.tail{n:Nat}{nm:List Nat}(h:NInj (n::nm)):NInj nm:=λi j id h1 h2=>by
 have:=h (i+1) (j+1) id (by simpa using h1) (by simpa using h2);omega
theorem qbe:∀ {nm:List Nat} {fin:GA},NInj nm->∀(i:Nat) (g:Gh) (k:Sh) (id:Nat),fin[i]?=some (g,k)->nm[i]?=some id->ghAt nm fin id=g
 |[],fin,_,i,g,k,id,_,h=>by simp at h
 |n::nm,[],_,i,g,k,id,h,_=>by simp at h
 |n::nm,f::fin,hn,i,g,k,id,h1,h2=>by
  unfold ghAt;cases i with
  |zero=>simp at h1 h2;subst h1;rw[if_pos h2.symm]
  |succ i =>
   simp only[AO]at h1 h2;have hne:id≠n:=λq=>by
    have:=hn (i+1) 0 id (by simpa using h2) (by simp[q]);omega
   rw[if_neg hne];exact qbe hn.tail i g k id h1 h2
theorem qaf:∀ {n b i id:Nat},(namesFrom b n)[i]?=some id->id=b+i
 |0,b,i,id,h=>by simp[namesFrom]at h
 |n+1,b,i,id,h=>by
  rw[namesFrom]at h;cases i with
  |zero=>simp at h;omega
  |succ i=>have:=qaf (by simpa using h);omega
theorem qjh(b n:Nat):NInj (namesFrom b n):=λi j id h1 h2=>by
 have:=qaf h1;have:=qaf h2;omega
theorem get_mem{k:Key}{e:Ent}:∀ {us:List (Key×Ent)},Mem.get k us=some e->(k,e)∈us
 |[],h=>by simp[Mem.get]at h
 |(k',e')::r,h=>by
  rw[Mem.qj]at h;split at h
  ·rename_i hk;cases h;subst hk;exact AF
  ·exact AA _ (get_mem h)
theorem qji{t:Nat}{e:Ent}:∀ {ts:List Nat} {vs:List SV},Mem.get (.slot t) (putSlots ts vs)=some e->∃(i:Nat) (s:SV),ts[i]?=some t/\vs[i]?=some s/\e=.sv s
 |[],vs,h=>by simp[putSlots,Mem.get]at h
 |_::_,[],h=>by simp[putSlots,Mem.get]at h
 |t'::ts,v::vs,h=>by
  rw[putSlots,Mem.qj]at h;split at h
  ·rename_i hk;cases h;cases hk;exact⟨0,v,rfl,rfl,rfl⟩
  ·obtain⟨i,s,h1,h2,h3⟩:=qji h;exact⟨i+1,s,by simpa using h1,by simpa using h2,h3⟩
theorem qjj{k:Key}(hk:∀t,k≠.slot t):∀ {ts:List Nat} {vs:List SV},Mem.get k (putSlots ts vs)=none
 |[],vs=>by simp[putSlots,Mem.get]
 |_::_,[]=>by simp[putSlots,Mem.get]
 |t'::ts,v::vs=>by rw[putSlots,Mem.qj,if_neg (hk _),qjj hk]
theorem q4e.noSlot{id t:Nat}(h:q4e id (.slot t)):False:=by
 rcases h with h | ⟨_,h⟩ <;> cases h
theorem qjk{X:Cx}{a:Act}{w:World}{S:Nat->Prop}{nm ts:List Nat}{T:List Tok}{V:List Value}{L:List FV}{fin:GA}{us:List (Key×Ent)}{svs:List SV}{r:List FV}(hk:Keep X w S)(hnt:a.tmps.size=X.nt)(hdf:a.defers=[])(hpin:∀t v,X.pin t=some v->a.tmps.getD t undef=v)
  (hT:TRep w S T V L [] fin) (hfl:flatOk 0 T=true) (hb:bld nm 0 T L=some (us,svs,r)) (hn:NInj nm) (hg:GOk X w S fin) (hs:All2 (λt v=>a.tmps.getD t undef=v) ts V) :
  r=[]/\Rel X (putSlots ts svs++us) a w (ghAt nm fin) S/\All2 (SRep w S (ghAt nm fin) (hdOf us)) svs V:=by
 obtain⟨b1,b2⟩:=bld_keys hn hb;have hnone:∀t,Mem.get (.slot t) us=none:=λt=>q66 λe he=>by
  obtain⟨i,id,_,_,q⟩:=b1 _ he;exact q.noSlot
 have hkey:∀k,(∀t,k≠.slot t)->Mem.get k (putSlots ts svs++us)=Mem.get k us:=λk hk=>by
  rw[Mem.get_append,qjj hk,CI]
 have hh:hdOf (putSlots ts svs++us)=hdOf us:=funext λid=>hkey _ (λt=>by simp)
 obtain⟨k1,k2,_,k4,_⟩:=q7n (M':=putSlots ts svs++us) (γ':=ghAt nm fin) hT hb (λp hp=>by
  rw[hkey p.1 (λt q=>by obtain⟨i,id,_,_,q'⟩:=b1 _ hp;rw[q]at q';exact q'.noSlot)];exact b2 p hp) (qbe hn) (λi g q k h=>by simp at h) hfl
 have hown:∀id e,hdOf us id=some e->ORep w S (ghAt nm fin) (putSlots ts svs++us) id e/\∃i g,nm[i]?=some id/\fin[i]?=some (g,(e.row,e.ob))/\ghAt nm fin id=g/\(Owned (ghAt nm fin) id e->g.nil=false):=λid e he=>by
  obtain⟨q1,i,g,_,q2,q3,q4⟩:=k4 id e (get_mem he);have hgg:=qbe hn i g _ id q3 q2;refine⟨q1,i,g,q2,q3,hgg,λho=>?_⟩;rcases q4 with⟨s,xs,rfl⟩ | ⟨n,rfl⟩ | ⟨_,_,_,rfl⟩
  ·rw[<- hgg];exact ho
  ·rw[<- hgg];exact q1.1
  ·rw[<- hgg];exact q1.1
 refine⟨k1,{ keep:=hk,head:=λid e he=>?_,own:=λid e he ho=>?_,inj:=λid e id' e' he he' ho ho' hbk=>?_,nt:=hnt,q2p:=hdf,pin:=hpin,slot:=λt s ht=>?_ },by rw[<- hh];exact k2⟩
 ·rw[hh]at he;exact(hown id e he).1
 ·rw[hh]at he;obtain⟨_,i,g,q1,q2,q3,q4⟩:=hown id e he;rw[q3];exact hg.own i g _ q2 (q4 ho)
 ·rw[hh]at he he';obtain⟨_,i,g,q1,q2,q3,q4⟩:=hown id e he;obtain⟨_,i',g',p1,p2,p3,p4⟩:=hown id' e' he';rw[q3,p3]at hbk;have:=hg.inj i i' g g' _ _ q2 p2 (q4 ho) (p4 ho') hbk;subst this;rw[q1]at p1;cases p1;rfl
 ·rw[Mem.get_append,hnone,Option.or_none]at ht;obtain⟨i,s',q1,q2,q3⟩:=qji ht;cases q3;obtain⟨v,q4,q5⟩:=k2.get i s q2;obtain⟨v',q6,q7⟩:=hs.get i t q1;rw[q4]at q6;cases q6;rw[q7];exact q5
def GSim(x y:Gh×Sh):Prop:=x.2=y.2/\x.1.nil=y.1.nil/\(x.1.nil=false->x.1.blk=y.1.blk)/\(x.2.2=none->x.1.cap=y.1.cap/\(x.1.nil=false->x.1.off=y.1.off))
theorem TRep.top{w:World}{S:Nat->Prop}{T:List Tok}{V:List Value}{L:List FV}{acc fin:GA}{x:Gh×Sh}(h:TRep w S T V L (acc++[x]) fin):fin[acc.length]?=some x:=by
 obtain⟨r,hr⟩:=h.pre;rw[hr];simp
theorem slice_inj{g g':Gh}{n n':Nat}(h:Value.slice g.base n g.cap=.slice g'.base n' g'.cap):n=n'/\g.cap=g'.cap/\g.nil=g'.nil/\(g.nil=false->g.blk=g'.blk/\g.off=g'.off):=by
 simp only[Value.slice.injEq]at h;obtain⟨h1,h2,h3⟩:=h;refine⟨h2,h3,?_⟩;cases hn:g.nil <;> cases hn':g'.nil <;> simp[Gh.base,hn,hn']at h1 ⊢;exact h1
theorem qbf{w:World}{S:Nat->Prop}:∀ {T T':List Tok} {n:Nat} {V1 V:List Value} {L:List FV} {acc fin:GA},pastTok T n=some T'->V1.length=n->TRep w S T (V1++V) L acc fin->tops 0 T=tops 0 T'/\∃L',TRep w S T' V L' acc fin
 |T,T',0,V1,V,L,acc,fin,h,hl,hT=>by
  have:V1=[]:=Dk.1 hl;subst this;cases T <;> (simp[pastTok]at h;subst h;exact⟨rfl,L,hT⟩)
 |[],T',n+1,V1,V,L,acc,fin,h,hl,hT=>by simp[pastTok]at h
 |t::T,T',n+1,v::V1,V,L,acc,fin,h,hl,hT=>by
  have hl':V1.length=n:=by simpa using hl
  cases t with
  |own sz=>simp[pastTok]at h
  |obj k=>simp[pastTok]at h
  |mapt kag ks z=>simp[pastTok]at h
  |ref j=>simp[pastTok]at h
  |skip =>
   obtain⟨v',V',h1,h2⟩:=hT;simp only[Al,Ba]at h1;obtain⟨_,rfl⟩:=h1;simp only[pastTok,arity,Ay]at h;have:=qbf h hl' h2;simpa[tops]using this
  |agg k =>
   obtain⟨cs,V',h1,hsz,h2⟩:=hT;simp only[Al,Ba]at h1;obtain⟨_,rfl⟩:=h1;simp only[pastTok,arity]at h;rw[<- Ap]at h2;have:=qbf h (by simp[hsz,hl'];omega) h2;simpa[tops]using this
  |clo fn k =>
   obtain⟨cs,V',h1,hsz,h2⟩:=hT;simp only[Al,Ba]at h1;obtain⟨_,rfl⟩:=h1;simp only[pastTok,arity]at h;rw[<- Ap]at h2;have:=qbf h (by simp[hsz,hl'];omega) h2;simpa[tops]using this
  |_ =>
   obtain⟨v',V',x,L',h1,rfl,_,_,h2⟩:=hT;simp only[Al,Ba]at h1;obtain⟨_,rfl⟩:=h1;simp only[pastTok,arity,Ay]at h;have:=qbf h hl' h2;simpa[tops]using this
 termination_by T=>T.length
theorem q3i{w w':World}{S S':Nat->Prop}:∀ {T U:List Tok} {n:Nat} {V1 V2 V R:List Value} {L L':List FV} {acc acc' fin fin':GA},ioOk n T U=true->V1.length=n->V2.length=n->TRep w S T (V1++V) L acc fin->TRep w' S' U (V2++(V++R)) L' acc' fin' ->
  acc.length=acc'.length->∀i,(tops n T)[i]?=some true->∃x x',fin[acc.length+i]?=some x/\fin'[acc.length+i]?=some x'/\GSim x x'
 |[],U,n,V1,V2,V,R,L,L',acc,acc',fin,fin',h,l1,l2,hT,hU,ha,i,hi=>by simp[tops]at hi
 |t::T,[],n,V1,V2,V,R,L,L',acc,acc',fin,fin',h,l1,l2,hT,hU,ha,i,hi=>by cases n <;> cases t <;> simp[ioOk]at h
 |t::T,u::U,0,V1,V2,V,R,L,L',acc,acc',fin,fin',h,l1,l2,hT,hU,ha,i,hi=>by
  have e1:V1=[]:=Dk.1 l1;have e2:V2=[]:=Dk.1 l2;subst e1;subst e2;rw[At]at hT hU;cases t with
  |own s =>
   cases u with
   |own s' =>
    simp only[ioOk,Ai]at h;have:=Aw h.1;subst this;obtain⟨g,xs,V',L1,rfl,rfl,hv,hT⟩:=hT;obtain⟨g',xs',V'',L1',hV,rfl,hv',hU⟩:=hU;simp only[Al,Ba]at hV;obtain⟨hV,rfl⟩:=hV;obtain⟨i1,i2,i3,i4⟩:=slice_inj hV;cases i with
    |zero=>exact⟨(g,_),(g',_),hT.top,by rw[ha];exact hU.top,by rw[i1],i3,λh=>(i4 h).1,λ_=>⟨i2,λh=>(i4 h).2⟩⟩
    |succ i =>
     have:=q3i (V1:=[]) (V2:=[]) h.2 rfl rfl hT hU (by simp[ha]) i (by simpa[tops]using hi);simpa[Bl,Bo 1 i]using this
   |_=>simp[ioOk]at h
  |obj k =>
   cases u with
   |obj k' =>
    simp only[ioOk,Ai]at h;have:=Aw h.1;subst this;obtain⟨g,vals,e,V',rfl,hn,hh,hsz,hT⟩:=hT;obtain⟨g',vals',e',V'',hV,hn',hh',hsz',hU⟩:=hU;simp only[Al,Ba,Value.pointer.injEq,AH,Addr.mk.injEq]at hV;obtain⟨⟨hV,_⟩,rfl⟩:=hV;cases i with
    |zero=>exact⟨(g,_),(g',_),hT.top,by rw[ha];exact hU.top,rfl,by rw[hn,hn'],λ_=>hV,λh=>by simp at h⟩
    |succ i =>
     have:=q3i (V1:=vals.toList) (V2:=vals'.toList) h.2 (by simp[hsz]) (by simp[hsz']) hT hU (by simp[ha]) i (by simpa[tops]using hi);simpa[Bl,Bo 1 i]using this
   |_=>simp[ioOk]at h
  |clo fn k =>
   cases u with
   |clo fn' k' =>
    simp only[ioOk,Ai]at h;obtain⟨cs,V',rfl,hsz,hT⟩:=hT;obtain⟨cs',V'',hV,hsz',hU⟩:=hU;simp only[Al,Ba,Value.func.injEq,CX]at hV;obtain⟨⟨_,rfl⟩,rfl⟩:=hV;rw[<- Ap]at hU;exact q3i (V1:=[]) (V2:=[]) h.2 rfl rfl hT hU ha i (by simpa[tops]using hi)
   |_=>simp[ioOk]at h
  |ref j =>
   cases u with
   |ref j' =>
    simp only[ioOk]at h;obtain⟨g,q,k,V',_,_,rfl,hT⟩:=hT;obtain⟨g',q',k',V'',_,_,hV,hU⟩:=hU;simp only[Al,Ba]at hV;obtain⟨_,rfl⟩:=hV;exact q3i (V1:=[]) (V2:=[]) h rfl rfl hT hU ha i (by simpa[tops]using hi)
   |_=>simp[ioOk]at h
  |agg k =>
   cases u with
   |skip =>
    simp only[ioOk]at h;split at h
    ·rename_i T' hp;obtain⟨cs,V',rfl,hsz,hT⟩:=hT;obtain⟨v,V'',hV,hU⟩:=hU;simp only[Al,Ba]at hV;obtain⟨_,rfl⟩:=hV;obtain⟨q1,L1,q2⟩:=qbf hp (by simp[hsz]) hT;have:T'.length<(Tok.agg k::T).length:=by
      have hl:∀ {T T':List Tok} {n:Nat},pastTok T n=some T'->T'.length<=T.length:=by
       intro T
       induction T with
       |nil=>intro T' n h;cases n <;> simp[pastTok]at h;subst h;exact Ak _
       |cons t T ih =>
        intro T' n h;cases n with
        |zero=>simp[pastTok]at h;subst h;exact Ak _
        |succ n =>
         simp only[pastTok]at h;split at h
         all_goals first | (simp at h;done) | (have:=ih h;simp;omega)
      have:=hl hp;simp;omega
     exact q3i (V1:=[]) (V2:=[]) h rfl rfl q2 hU ha i (by rw[<- q1];simpa[tops]using hi)
    ·simp at h
   |_=>simp[ioOk]at h
  |mapt kag ks z =>
   cases u with
   |mapt kag' ks' z' =>
    simp only[ioOk,Ai]at h;obtain⟨q1,q2,q3⟩:=qfw h.1;subst q1;subst q2;subst q3;obtain⟨g,es,clk,V',L1,rfl,rfl,hn,hm,hT⟩:=hT;obtain⟨g',es',clk',V'',L1',hV,rfl,hn',hm',hU⟩:=hU;simp only[Al,Ba,Value.map.injEq,AH]at hV;obtain⟨hV,rfl⟩:=hV;cases i with
    |zero=>exact⟨(g,_),(g',_),hT.top,by rw[ha];exact hU.top,rfl,by rw[hn,hn'],λ_=>hV,λh=>by simp at h⟩
    |succ i =>
     have:=q3i (V1:=[]) (V2:=[]) h.2 rfl rfl hT hU (by simp[ha]) i (by simpa[tops]using hi);simpa[Bl,Bo 1 i]using this
   |_=>simp[ioOk]at h
  |skip =>
   cases u with
   |skip =>
    simp only[ioOk]at h;obtain⟨v',V',rfl,hT⟩:=hT;obtain⟨v,V'',hV,hU⟩:=hU;simp only[Al,Ba]at hV;obtain⟨_,rfl⟩:=hV;exact q3i (V1:=[]) (V2:=[]) h rfl rfl hT hU ha i (by simpa[tops]using hi)
   |_=>simp[ioOk]at h
  |_ =>
   cases u with
   |skip =>
    simp only[ioOk]at h;obtain⟨v',V',x,L1,rfl,rfl,_,_,hT⟩:=hT;obtain⟨v,V'',hV,hU⟩:=hU;simp only[Al,Ba]at hV;obtain⟨_,rfl⟩:=hV;exact q3i (V1:=[]) (V2:=[]) h rfl rfl hT hU ha i (by simpa[tops]using hi)
   |_=>simp[ioOk]at h
 |t::T,u::U,n+1,v1::V1,v2::V2,V,R,L,L',acc,acc',fin,fin',h,l1,l2,hT,hU,ha,i,hi=>by
  have l1':V1.length=n:=by simpa using l1
  have l2':V2.length=n:=by simpa using l2
  simp only[ioOk,Ai]at h;obtain⟨he,h⟩:=h;cases t with
  |own s =>
   cases u with
   |own s' =>
    obtain⟨g,xs,V',L1,hV1,rfl,hv,hT⟩:=hT;obtain⟨g',xs',V'',L1',hV2,rfl,hv',hU⟩:=hU;simp only[Al,Ba]at hV1 hV2;obtain⟨_,rfl⟩:=hV1;obtain⟨_,rfl⟩:=hV2;cases i with
    |zero=>simp[tops]at hi
    |succ i =>
     have:=q3i h (by simpa[arity]using l1') (by simpa[arity]using l2') hT hU (by simp[ha]) i (by simpa[tops,arity]using hi);simpa[Bl,Bo 1 i]using this
   |_=>simp[tokEq]at he
  |obj k =>
   cases u with
   |obj k' =>
    simp only[tokEq]at he;have:=Aw he;subst this;obtain⟨g,vals,e,V',hV1,hn,hh,hsz,hT⟩:=hT;obtain⟨g',vals',e',V'',hV2,hn',hh',hsz',hU⟩:=hU;simp only[Al,Ba]at hV1 hV2;obtain⟨_,rfl⟩:=hV1;obtain⟨_,rfl⟩:=hV2;rw[<- Ap]at hT hU;cases i with
    |zero=>simp[tops]at hi
    |succ i =>
     have:=q3i h (by simp[arity,hsz,l1'];omega) (by simp[arity,hsz',l2'];omega) hT hU (by simp[ha]) i (by simpa[tops,arity]using hi);simpa[Bl,Bo 1 i]using this
   |_=>simp[tokEq]at he
  |clo fn k =>
   cases u with
   |clo fn' k' =>
    have hk:k=k':=by
     cases fn <;> cases fn' <;> simp[tokEq]at he;exact he.2
    subst hk;obtain⟨cs,V',hV1,hsz,hT⟩:=hT;obtain⟨cs',V'',hV2,hsz',hU⟩:=hU;simp only[Al,Ba]at hV1 hV2;obtain⟨_,rfl⟩:=hV1;obtain⟨_,rfl⟩:=hV2;rw[<- Ap]at hT hU;exact q3i h (by simp[arity,hsz,l1'];omega) (by simp[arity,hsz',l2'];omega) hT hU ha i (by simpa[tops,arity,show Nat.beq (n+1) 0=false from rfl]using hi)
   |_=>cases fn <;> simp[tokEq]at he
  |agg k =>
   cases u with
   |agg k' =>
    simp only[tokEq]at he;have:=Aw he;subst this;obtain⟨cs,V',hV1,hsz,hT⟩:=hT;obtain⟨cs',V'',hV2,hsz',hU⟩:=hU;simp only[Al,Ba]at hV1 hV2;obtain⟨_,rfl⟩:=hV1;obtain⟨_,rfl⟩:=hV2;rw[<- Ap]at hT hU;exact q3i h (by simp[arity,hsz,l1'];omega) (by simp[arity,hsz',l2'];omega) hT hU ha i (by simpa[tops,arity,show Nat.beq (n+1) 0=false from rfl]using hi)
   |_=>simp[tokEq]at he
  |ref j =>
   cases u with
   |ref j' =>
    obtain⟨g,q,k,V',_,_,hV1,hT⟩:=hT;obtain⟨g',q',k',V'',_,_,hV2,hU⟩:=hU;simp only[Al,Ba]at hV1 hV2;obtain⟨_,rfl⟩:=hV1;obtain⟨_,rfl⟩:=hV2;exact q3i h (by simpa[arity]using l1') (by simpa[arity]using l2') hT hU ha i (by simpa[tops,arity]using hi)
   |_=>simp[tokEq]at he
  |mapt kag ks z =>
   cases u with
   |mapt kag' ks' z' =>
    obtain⟨g,es,clk,V',L1,hV1,rfl,hn,hm,hT⟩:=hT;obtain⟨g',es',clk',V'',L1',hV2,rfl,hn',hm',hU⟩:=hU;simp only[Al,Ba]at hV1 hV2;obtain⟨_,rfl⟩:=hV1;obtain⟨_,rfl⟩:=hV2;cases i with
    |zero=>simp[tops]at hi
    |succ i =>
     have:=q3i h (by simpa[arity]using l1') (by simpa[arity]using l2') hT hU (by simp[ha]) i (by simpa[tops,arity]using hi);simpa[Bl,Bo 1 i]using this
   |_=>simp[tokEq]at he
  |skip =>
   cases u with
   |skip =>
    obtain⟨v',V',hV1,hT⟩:=hT;obtain⟨v,V'',hV2,hU⟩:=hU;simp only[Al,Ba]at hV1 hV2;obtain⟨_,rfl⟩:=hV1;obtain⟨_,rfl⟩:=hV2;exact q3i h (by simpa[arity]using l1') (by simpa[arity]using l2') hT hU ha i (by simpa[tops,arity]using hi)
   |_=>simp[tokEq]at he
  |_ =>
   cases u <;> simp only[tokEq,Br]at he;obtain⟨v',V',x,L1,hV1,rfl,_,_,hT⟩:=hT;obtain⟨v,V'',x',L1',hV2,rfl,_,_,hU⟩:=hU;simp only[Al,Ba]at hV1 hV2;obtain⟨_,rfl⟩:=hV1;obtain⟨_,rfl⟩:=hV2;exact q3i h (by simpa[arity]using l1') (by simpa[arity]using l2') hT hU ha i (by simpa[tops,arity]using hi)
 termination_by T=>T.length
theorem TRep.sim{w:World}{S:Nat->Prop}:∀ {T:List Tok} {V:List Value} {L:List FV} {acc fin acc2 fin2:GA},TRep w S T V L acc fin->fin.length=fin2.length->(∀(i:Nat) (x y:Gh×Sh),fin[i]?=some x->fin2[i]?=some y->GSim x y)->acc2=fin2.take acc.length->TRep w S T V L acc2 fin2
 |[],V,L,acc,fin,acc2,fin2,h,hl,hs,ha=>by
  obtain⟨rfl,rfl,rfl⟩:=h;exact⟨rfl,rfl,by rw[ha,CU (by omega)]⟩
 |t::T,V,L,acc,fin,acc2,fin2,h,hl,hs,ha=>by
  have next:∀ {T':List Tok} {V':List Value} {L':List FV} {x:Gh×Sh},TRep w S T' V' L' (acc++[x]) fin->∃y,fin2[acc.length]?=some y/\GSim x y/\acc2++[y]=fin2.take (acc++[x]).length:=λhT=>by
   have h1:=hT.top;have hlt:acc.length<fin2.length:=by rw[<- hl];exact(Ao.1 h1).1
   refine⟨fin2[acc.length],Ag hlt,hs _ _ _ h1 (Ag hlt),?_⟩;rw[ha,Bb,Cm,DC,Ag hlt];rfl
  cases t with
  |skip=>obtain⟨v,V',h1,h⟩:=h;exact⟨v,V',h1,h.sim hl hs ha⟩
  |own sz =>
   obtain⟨g,xs,V',L',h1,h2,h3,h⟩:=h;obtain⟨⟨g2,sh⟩,q1,⟨q2,q3,q4,q5⟩,q6⟩:=next h
   simp only at q2 q3 q4 q5;subst q2;obtain⟨q7,q8⟩:=q5 trivial;have hbase:g2.base=g.base:=by
    unfold Gh.base;rw[<- q3];cases hn:g.nil with
    |true=>rfl
    |false=>rw[q4 hn,q8 hn]
   refine⟨g2,xs,V',L',by rw[hbase,<- q7];exact h1,h2,?_,h.sim hl hs q6⟩;refine⟨by rw[<- q7];exact h3.1,?_⟩;have h4:=h3.2;rw[<- q3,<- q7];split
   ·rename_i hn;rw[if_pos hn]at h4;exact h4
   ·rename_i hn;rw[if_neg hn]at h4;have hn':g.nil=false:=by simpa using hn
    rw[<- q4 hn',<- q8 hn'];exact h4
  |obj k =>
   obtain⟨g,vals,e,V',h1,h2,h3,h4,h⟩:=h;obtain⟨⟨g2,sh⟩,q1,⟨q2,q3,q4,q5⟩,q6⟩:=next h
   simp only at q2 q3 q4;subst q2;exact⟨g2,vals,e,V',by rw[<- q4 h2];exact h1,by rw[<- q3];exact h2,by rw[<- q4 h2];exact h3,h4,h.sim hl hs q6⟩
  |ref j =>
   obtain⟨g,q,k,V',h1,hn,h2,h⟩:=h;obtain⟨r,hr⟩:=h.pre;have hj:=(Ao.1 h1).1;have h3:fin[j]?=some (g,(q,some (.n k))):=by rw[hr,Da hj,h1]
   have hlt:j<fin2.length:=by rw[<- hl];exact(Ao.1 h3).1
   have hsim:=hs j _ _ h3 (Ag hlt);obtain⟨q2,q3,q4,_⟩:=hsim;refine⟨fin2[j].1,q,k,V',?_,by rw[<- q3];exact hn,by rw[<- q4 hn];exact h2,h.sim hl hs ha⟩;rw[ha,CN hj,Ag hlt];simp only at q2;rw[AH];exact Prod.ext rfl q2.symm
  |agg k=>obtain⟨cs,V',h1,h2,h⟩:=h;exact⟨cs,V',h1,h2,h.sim hl hs ha⟩
  |clo fn k=>obtain⟨cs,V',h1,h2,h⟩:=h;exact⟨cs,V',h1,h2,h.sim hl hs ha⟩
  |mapt kag ks z =>
   obtain⟨g,es,clk,V',L',h1,h2,hn,hm,h⟩:=h;obtain⟨⟨g2,sh⟩,q1,⟨q2,q3,q4,q5⟩,q6⟩:=next h
   simp only at q2 q3 q4;subst q2;refine⟨g2,es,clk,V',L',by rw[<- q4 hn];exact h1,h2,by rw[<- q3];exact hn,?_,h.sim hl hs q6⟩;unfold MRep at hm ⊢;rw[<- q4 hn];exact hm
  |_=>obtain⟨v,V',x,L',h1,h2,h3,h4,h⟩:=h;exact⟨v,V',x,L',h1,h2,h3,h4,h.sim hl hs ha⟩
 termination_by T=>T.length
end
end Rf
