/- Texts of this work put together, their blanks and comments taken out: Rf20, Rf21, Rf22, Rf23, Rf24, Rf25. -/
import Derived.Test.YtcpnpoagpnkblaaGreatDoorOMD
import Derived.Laws.Externs
import Derived.Scope
import Derived.LoopN
set_option linter.unusedVariables false
set_option linter.unusedSimpArgs false
namespace Rf
open Go
section
theorem q7m{w:World}{S:Nat->Prop}:∀ {T:List Tok} {n:Nat} {V:List Value} {L:List FV} {acc fin:GA},TRep w S T V L acc fin->fin.length=acc.length+(tops n T).length
 |[],n,V,L,acc,fin,h=>by rw[h.2.2];simp[tops]
 |t::T,n,V,L,acc,fin,h=>by
  cases t with
  |skip=>obtain⟨v,V',_,h⟩:=h;have:=q7m (n:=n-1) h;simpa[tops]using this
  |own sz=>obtain⟨g,xs,V',L',_,_,_,h⟩:=h;have:=q7m (n:=n-1) h;simp[tops]at this ⊢;omega
  |obj k=>obtain⟨g,vals,e,V',_,_,_,_,h⟩:=h;have:=q7m (n:=n-1+k) h;simp[tops]at this ⊢;omega
  |ref j=>obtain⟨g,r,k,V',_,_,_,h⟩:=h;have:=q7m (n:=n-1) h;simpa[tops]using this
  |agg k=>obtain⟨cs,V',_,_,h⟩:=h;have:=q7m (n:=bif Nat.beq n 0 then 0 else n-1+k) h;simpa only[tops]using this
  |clo fn k=>obtain⟨cs,V',_,_,h⟩:=h;have:=q7m (n:=bif Nat.beq n 0 then 0 else n-1+k) h;simpa only[tops]using this
  |mapt kag ks z=>obtain⟨g,es,clk,V',L',_,_,_,_,h⟩:=h;have:=q7m (n:=n-1) h;simp[tops]at this ⊢;omega
  |_=>obtain⟨v,V',x,L',_,_,_,_,h⟩:=h;have:=q7m (n:=n-1) h;simpa[tops]using this
 termination_by T=>T.length
theorem qjf:∀ {bs:List Bool} {ids:List (Option Nat)} {base n j id:Nat},(nameAll base bs ids n)[j]?=some id ->
  (bs[j]?=some true/\ids[j]?=some (some id))\/(id∈newOf bs ids (nameAll base bs ids n)/\id=base+j)
 |[],ids,base,n,j,id,h=>by
  simp only[nameAll,newOf]at h ⊢;exact .inr ⟨AS h,qaf h⟩
 |b::bs,[],base,n,j,id,h=>by
  simp only[nameAll,newOf]at h ⊢;exact .inr ⟨AS h,qaf h⟩
 |b::bs,o::ids,base,n,j,id,h=>by
  simp only[nameAll]at h ⊢;cases j with
  |zero =>
   simp only[Aj,AH]at h;cases b <;> cases o <;> simp only at h <;> subst h
   ·exact .inr ⟨by simp[newOf],rfl⟩
   ·exact .inr ⟨by simp[newOf],rfl⟩
   ·exact .inr ⟨by simp[newOf],rfl⟩
   ·exact .inl ⟨rfl,rfl⟩
  |succ j =>
   rcases qjf (by simpa using h)with⟨h1,h2⟩ | ⟨h1,h2⟩
   ·exact .inl ⟨by simpa using h1,by simpa using h2⟩
   ·refine .inr ⟨?_,by omega⟩;cases b <;> cases o <;> simp only[newOf] <;> first | exact AA _ h1 | exact h1
theorem qph{bs:List Bool}:∀ {ids:List (Option Nat)} {base n j id:Nat},bs[j]?=some true->ids[j]?=some (some id)->(nameAll base bs ids n)[j]?=some id:=by
 induction bs with
 |nil=>intro ids base n j id h;simp at h
 |cons b bs ih =>
  intro ids base n j id h1 h2;cases ids with
  |nil=>simp at h2
  |cons o ids =>
   simp only[nameAll];cases j with
   |zero=>simp at h1 h2;subst h1;subst h2;rfl
   |succ j=>simpa using ih (by simpa using h1) (by simpa using h2)
theorem qfs:∀ {bs:List Bool} {ids:List (Option Nat)} {p:Key×Ent},p∈tombsOf bs ids->∃(j id:Nat),ids[j]?=some (some id)/\p=(.head id,.tomb)
 |[],ids,p,h=>by simp[tombsOf]at h
 |b::bs,[],p,h=>by simp[tombsOf]at h
 |b::bs,o::ids,p,h=>by
  have rest:p∈tombsOf bs ids->∃(j id:Nat),(o::ids)[j]?=some (some id)/\p=(.head id,.tomb):=λh=>by
   obtain⟨j,id,h1,h2⟩:=qfs h;exact⟨j+1,id,by simpa using h1,h2⟩
  cases b <;> cases o <;> simp only[tombsOf]at h
  ·exact rest h
  ·rcases Ar.1 h with rfl | h
   ·exact⟨0,_,rfl,rfl⟩
   ·exact rest h
  ·exact rest h
  ·exact rest h
theorem tombs_has{bs:List Bool}:∀ {ids:List (Option Nat)} {j id:Nat},bs[j]?=some false->ids[j]?=some (some id)->(Key.head id,Ent.tomb)∈tombsOf bs ids:=by
 induction bs with
 |nil=>intro ids j id h;simp at h
 |cons b bs ih =>
  intro ids j id h1 h2;cases ids with
  |nil=>simp at h2
  |cons o ids =>
   cases j with
   |zero=>simp at h1 h2;subst h1;subst h2;simp[tombsOf]
   |succ j =>
    have:=ih (by simpa using h1) (by simpa using h2);cases b <;> cases o <;> simp only[tombsOf] <;> first | exact AA _ this | exact this
theorem GSim.symm{x y:Gh×Sh}(h:GSim x y):GSim y x:=by
 obtain⟨h1,h2,h3,h4⟩:=h;refine⟨h1.symm,h2.symm,λh=>(h3 (h2.trans h)).symm,λh=>?_⟩;obtain⟨q1,q2⟩:=h4 (by rw[h1];exact h);exact⟨q1.symm,λh=>(q2 (h2.trans h)).symm⟩
theorem GSim.refl(x:Gh×Sh):GSim x x:=⟨rfl,rfl,λ_=>rfl,λ_=>⟨rfl,λ_=>rfl⟩⟩
theorem TRep.scalar{w:World}{S S2:Nat->Prop}:∀ {T:List Tok} {V:List Value} {L:List FV} {acc fin:GA},TRep w S T V L acc fin->scalarOut T=true->TRep w S2 T V L acc fin
 |[],V,L,acc,fin,h,_=>h
 |t::T,V,L,acc,fin,h,hs=>by
  cases t with
  |skip=>obtain⟨v,V',h1,h⟩:=h;exact⟨v,V',h1,h.scalar (by simpa[scalarOut]using hs)⟩
  |own sz=>simp[scalarOut]at hs
  |obj k=>obtain⟨g,vals,e,V',h1,h2,h3,h4,h⟩:=h;exact⟨g,vals,e,V',h1,h2,h3,h4,h.scalar (by simpa[scalarOut]using hs)⟩
  |ref j=>obtain⟨g,r,k,V',h1,h2,h3,h⟩:=h;exact⟨g,r,k,V',h1,h2,h3,h.scalar (by simpa[scalarOut]using hs)⟩
  |agg k=>obtain⟨cs,V',h1,h2,h⟩:=h;exact⟨cs,V',h1,h2,h.scalar (by simpa[scalarOut]using hs)⟩
  |clo fn k=>obtain⟨cs,V',h1,h2,h⟩:=h;exact⟨cs,V',h1,h2,h.scalar (by simpa[scalarOut]using hs)⟩
  |mapt kag ks z=>simp[scalarOut]at hs
  |lst sz=>simp[scalarOut]at hs
  |fpt sz=>simp[scalarOut]at hs
  |int k =>
   obtain⟨v,V',x,L',h1,h2,h3,h4,h⟩:=h;cases x <;> simp only[leafT]at h3;cases h4;exact⟨_,V',_,L',h1,h2,h3,.int _ _,h.scalar (by simpa[scalarOut]using hs)⟩
  |bool =>
   obtain⟨v,V',x,L',h1,h2,h3,h4,h⟩:=h;cases x <;> simp only[leafT]at h3;cases h4;exact⟨_,V',_,L',h1,h2,h3,.bool _,h.scalar (by simpa[scalarOut]using hs)⟩
  |str =>
   obtain⟨v,V',x,L',h1,h2,h3,h4,h⟩:=h;cases x <;> simp only[leafT]at h3;cases h4;exact⟨_,V',_,L',h1,h2,h3,.str _,h.scalar (by simpa[scalarOut]using hs)⟩
  |raw u =>
   obtain⟨v,V',x,L',h1,h2,h3,h4,h⟩:=h;cases x <;> simp only[leafT]at h3;cases h4;exact⟨_,V',_,L',h1,h2,h3,.raw _,h.scalar (by simpa[scalarOut]using hs)⟩
  |fn =>
   obtain⟨v,V',x,L',h1,h2,h3,h4,h⟩:=h;cases x <;> simp only[leafT]at h3;cases h4;exact⟨_,V',_,L',h1,h2,h3,.raw _,h.scalar (by simpa[scalarOut]using hs)⟩
 termination_by T=>T.length
def q2b(G:GA)(b:Nat):Prop:=∃(i:Nat) (g:Gh) (sh:Sh),G[i]?=some (g,sh)/\g.nil=false/\b=g.blk
section
variable {X:Cx} {M:Mem} {a:Act} {w:World} {γ:Nat->Gh}
theorem rel_called{S1 S2 S' S'':Nat->Prop}{us0 fz:List (Key×Ent)}{ids:List (Option Nat)}{G fin':GA}{tin tout:List Tok}{V R:List Value}{L L':List FV}{w':World}{base n:Nat}{bs:List Bool}{ws:List (Key×Ent)}{rs:List SV}
  (h1:Rel X (fz++M) a w γ S1) (h:Rel X (us0++M) a w γ S2) (hus:qw M us0) (hG:All2 (GRel γ M) ids G) (hi:q53 M ids) (ha:q4o ids fz=true) (ha0:q4o ids us0=true)
  (_hT:TRep w S1 tin V L [] G) (hU:TRep w' S'' tout (V++R) L' [] fin') (hk:Keep ⟨w,S1,q2b G,0,λ_=>none⟩ w' S') (hgo:GOk ⟨w,S1,q2b G,0,λ_=>none⟩ w' S' fin') (hbl:bs.length=G.length) (hio:∀j:Nat,bs[j]?=some true->∃x y,G[j]?=some x/\fin'[j]?=some y/\GSim x y) (hfl:flatOk 0 tout=true)
  (hb:bld (nameAll base bs ids n) 0 tout L'=some (ws,rs,[])) (hfresh:∀id,id∈newOf bs ids (nameAll base bs ids n)->hdOf M id=none)
  (s12:∀b,S2 b->S1 b) (s2:∀b,S2 b->S'' b) (s':∀b,S'' b->S' b) (sf:∀b,S'' b->S2 b\/q2b G b\/w.heap.size<=b) :
  ∃ γ',Rel X (ws++(tombsOf bs ids++us0)++M) a w' γ' S''/\All2 (SRep w' S'' γ' (hdOf (ws++(tombsOf bs ids++us0)++M))) rs (V++R) /\
   ∀t,Mem.get (.slot t) (ws++(tombsOf bs ids++us0)++M)=Mem.get (.slot t) M:=by
 have gok1:GOk X w S1 G:=.of h1 hG hi ha;generalize hnm:nameAll base bs ids n=nm at hb hfresh;have hlen:bs.length=ids.length:=by rw[hG.len];exact hbl
 have hname:∀j id,nm[j]?=some id->(bs[j]?=some true/\ids[j]?=some (some id))\/(hdOf M id=none/\id=base+j):=λj id hj=>by
  subst hnm;rcases qjf hj with q | ⟨q1,q2⟩
  ·exact .inl q
  ·exact .inr ⟨hfresh id q1,q2⟩
 have hidM:∀j id,ids[j]?=some (some id)->∃e,hdOf M id=some e/\((∃s xs,e=.vec s xs)\/(∃n,e=.obj n)\/∃kag ks z,e=.mapH kag ks z):=hi.live;have hinj:NInj nm:=λi j id q1 q2=>by
  rcases hname i id q1 with⟨_,p1⟩ | ⟨p1,p2⟩ <;> rcases hname j id q2 with⟨_,p3⟩ | ⟨p3,p4⟩
  ·exact hi.inj i j id p1 p3
  ·obtain⟨e,r,_⟩:=hidM i id p1;rw[p3]at r;cases r
  ·obtain⟨e,r,_⟩:=hidM j id p3;rw[p1]at r;cases r
  ·omega
 obtain⟨b1,b2⟩:=bld_keys hinj hb
 let γ':Nat->Gh:=λid=>if(hdOf M id).isSome=true then γ id else ghAt nm fin' id
 have hγold:∀id e,hdOf M id=some e->γ' id=γ id:=λid e he=>by simp[γ',he]
 let fin2:GA:=fin'.zipIdx.map λp=>((match nm[p.2]? with | some id=>γ' id | none=>p.1.1),p.1.2)
 have hf2:∀i:Nat,fin2[i]?=(fin'[i]?).map λ(x:Gh×Sh)=>((match nm[i]? with | some id=>γ' id | none=>x.1),x.2):=λi=>by
  simp only[fin2,Bq,List.getElem?_zipIdx,AJ];cases fin'[i]? <;> simp
 have htop:∀j id,bs[j]?=some true->ids[j]?=some (some id)->∃sh g',fin'[j]?=some (g',sh)/\G[j]?=some (γ id,sh)/\GSim (γ id,sh) (g',sh)/\∃e,hdOf M id=some e/\sh=(e.row,e.ob):=λj id q1 q2=>by
  obtain⟨⟨g,sh⟩,⟨g',sh'⟩,p1,p2,p3⟩:=hio j q1;obtain⟨y,r1,r2,e,r3,r4⟩:=hG.get j _ q2;rw[p1]at r1;cases r1;simp only at r2 r4;subst r2;have hs:sh=sh':=p3.1;subst hs;exact⟨sh,g',p2,p1,p3,e,r3,r4⟩
 have hsim:∀(i:Nat) (x y:Gh×Sh),fin'[i]?=some x->fin2[i]?=some y->GSim x y:=λi x y q1 q2=>by
  rw[hf2,q1]at q2;simp only[AD,AH]at q2;subst q2;cases hn:nm[i]? with
  |none=>exact .refl x
  |some id =>
   rcases hname i id hn with⟨p1,p2⟩ | ⟨p1,p2⟩
   ·obtain⟨sh,g',r1,r2,r3,e,r4,r5⟩:=htop i id p1 p2;rw[q1]at r1;cases r1;simp only[hγold id e r4];exact r3.symm
   ·have:γ' id=ghAt nm fin' id:=by simp[γ',p1]
    simp only[this,qbe hinj i x.1 x.2 id q1 hn];exact .refl x
 have hU2:TRep w' S'' tout (V++R) L' [] fin2:=hU.sim (by simp[fin2]) hsim rfl;have hslot:∀t,Mem.get (.slot t) ws=none:=λt=>q66 λe he=>by
  obtain⟨i,id,_,_,q⟩:=b1 _ he;exact q.noSlot
 have htslot:∀k,(∀id,k≠.head id)->Mem.get k (tombsOf bs ids)=none:=λk hk=>q66 λe he=>by
  obtain⟨j,id,_,q⟩:=qfs he;exact hk id (congrArg Prod.fst q)
 have huslot:∀k,(∀id,k≠.head id)->Mem.get k us0=none:=λk hk=>q66 λe he=>by
  obtain⟨id,s,xs,q,_⟩:=hus _ he;exact hk id (congrArg Prod.fst q)
 have hget:∀k,Mem.get k (ws++(tombsOf bs ids++us0)++M)=(Mem.get k ws).or ((Mem.get k (tombsOf bs ids)).or (Mem.get k (us0++M))):=λk=>by
  rw[Ap,Ap,Mem.get_append,Mem.get_append]
 obtain⟨_,k2,_,k4,k5⟩:=q7n (M':=ws++(tombsOf bs ids++us0)++M) (γ':=γ') (n:=0) hU2 hb (λp hp=>by rw[hget,b2 p hp];rfl) (λi g k id q1 q2=>by
  rw[hf2]at q1;cases hfi:fin'[i]? with
  |none=>rw[hfi]at q1;simp at q1
  |some x=>rw[hfi]at q1;simp only[AD,q2,AH,Bv]at q1;exact q1.1) (λi g q k h=>by simp at h) hfl
 have cases':∀id e,hdOf (ws++(tombsOf bs ids++us0)++M) id=some e ->
   ((Key.head id,e)∈ws)\/(e=.tomb/\Mem.get (.head id) ws=none)\/(hdOf (us0++M) id=some e/\Mem.get (.head id) ws=none/\some id ∉ ids/\∀j,Mem.get (.cell id j) ws=none):=λid e he=>by
  rw[hdOf,hget]at he;cases q1:Mem.get (.head id) ws with
  |some e'=>rw[q1]at he;cases he;exact .inl (get_mem q1)
  |none =>
   rw[q1,CI]at he;cases q2:Mem.get (.head id) (tombsOf bs ids)with
   |some e' =>
    rw[q2]at he;cases he;obtain⟨_,_,_,q⟩:=qfs (get_mem q2);cases q;exact .inr (.inl ⟨rfl,rfl⟩)
   |none =>
    rw[q2,CI]at he;have hno:some id ∉ ids:=λhm=>by
     obtain⟨j,hj⟩:=Bt.1 hm;have hjl:j<bs.length:=by rw[hlen];exact(Ao.1 hj).1
     cases hbj:bs[j]with
     |true =>
      obtain⟨sh,g',r1,_⟩:=htop j id (by rw[Ag hjl,hbj]) hj;obtain⟨id',e',p1,p2⟩:=k5 j _ (BP _) (by rw[hf2,r1];rfl);have:nm[j]?=some id:=by rw[<- hnm];exact qph (by rw[Ag hjl,hbj]) hj
      rw[this]at p1;cases p1;have:=b2 _ p2;simp only at this;rw[this]at q1;cases q1
     |false =>
      have hm:=tombs_has (bs:=bs) (by rw[Ag hjl,hbj]) hj;have:∀ {us:List (Key×Ent)} {k:Key} {e:Ent},(k,e)∈us->Mem.get k us≠none:=by
       intro us k e
       induction us with
       |nil=>intro h;simp at h
       |cons p us ih =>
        obtain⟨k',e'⟩:=p;intro h;rw[Mem.qj];split
        ·simp
        ·rename_i hk;rcases Ar.1 h with h | h
         ·cases h;exact absurd rfl hk
         ·exact ih h
      exact this hm q2
    refine .inr (.inr ⟨he,rfl,hno,λj=>q66 λe' hm=>?_⟩);obtain⟨i,id',_,p1,p2⟩:=b1 _ hm;have hid:id'=id:=q4e.inj p2 (.inr ⟨j,rfl⟩);subst hid;rcases hname i id' p1 with⟨_,p3⟩ | ⟨p3,_⟩
    ·exact hno (AS p3)
    ·have:=qw.qag hus p3;rw[show Mem.get (.head id') (us0++M)=hdOf (us0++M) id' from rfl,this]at he;cases he
 have hw0:∀b,b<w.heap.size->¬ q2b G b->w'.heap[b]?=w.heap[b]?:=hk.block;have hws:∀b,S2 b->w'.heap[b]?=w.heap[b]?:=λb hb=>hw0 b (h.keep.bound b hb) λ⟨i,g,sh,q1,q2,q3⟩=>by
  subst q3;exact(gok1.own i g sh q1 q2).2.1 (s12 _ hb)
 have hhd:HdLe (hdOf (us0++M)) (hdOf (ws++(tombsOf bs ids++us0)++M)) γ γ':=λid e he=>by
  have hM:∃e0,hdOf M id=some e0:=by
   cases q:hdOf M id with
   |some e0=>exact⟨e0,rfl⟩
   |none=>have:=qw.qag hus q;rw[this]at he;cases he
  obtain⟨e0,he0⟩:=hM;have hg:=hγold id e0 he0;cases q:hdOf (ws++(tombsOf bs ids++us0)++M) id with
  |none =>
   rw[hdOf,hget]at q;rw[show Mem.get (.head id) (us0++M)=some e from he]at q;simp at q
  |some e' =>
   refine⟨e',rfl,?_⟩;rcases cases' id e' q with q1 | ⟨q1,_⟩ | ⟨q1,_,_,_⟩
   ·obtain⟨_,i,g,_,p1,p2,p3⟩:=k4 id e' q1;rcases hname i id p1 with⟨p4,p5⟩ | ⟨p4,_⟩
    ·obtain⟨sh,g',r1,r2,r3,e1,r4,r5⟩:=htop i id p4 p5;have he1:hdOf (us0++M) id=hdOf M id:=qft ha0 (AS p5);rw[he1,r4]at he;cases he;rw[hf2,r1]at p2;simp only[AD,AH,Bv]at p2;have hsh:(e.row,e.ob)=(e'.row,e'.ob):=by rw[<- r5];exact p2.2
     simp only[Bv]at hsh;refine .inr ⟨hsh.1.symm,hsh.2.symm,λht=>?_,hg⟩;subst ht;obtain⟨e2,t1,t2⟩:=hidM i id p5;rw[r4]at t1;cases t1;rcases t2 with⟨_,_,t2⟩ | ⟨_,t2⟩ | ⟨_,_,_,t2⟩ <;> cases t2
    ·rw[p4]at he0;cases he0
   ·exact .inl q1
   ·rw[he]at q1;cases q1;exact .inr ⟨rfl,rfl,λh=>h,hg⟩
 have hother:∀id e,hdOf (us0++M) id=some e->some id ∉ ids->Owned γ id e->¬ q2b G (γ id).blk:=λid e he hno ho ⟨i,g,sh,q1,q2,q3⟩=>by
  obtain⟨x,p1,p2⟩:=hG.getR i _ q1;cases x with
  |none=>obtain⟨p2,_⟩:=p2;simp only at p2;subst p2;simp at q2
  |some id' =>
   obtain⟨p2,e',p3,p4⟩:=p2;simp only at p2;subst p2;have he':hdOf (us0++M) id'=some e':=by rw[qft ha0 (AS p1)];exact p3
   have ho':Owned γ id' e':=by
    obtain⟨e2,t1,t2⟩:=hidM i id' p1;rw[p3]at t1;cases t1;rcases t2 with⟨_,_,rfl⟩ | ⟨_,rfl⟩ | ⟨_,_,_,rfl⟩
    ·exact q2
    ·trivial
    ·trivial
   have:=h.inj id e id' e' he he' ho ho' q3;subst this;exact hno (AS p1)
 have hgiven:∀b,q2b G b->b<w.heap.size/\(X.W0 b\/X.w0.heap.size<=b):=λb ⟨i,g,sh,q1,q2,q3⟩=>by
  subst q3;have:=gok1.own i g sh q1 q2;exact⟨this.1,this.2.2⟩
 have hsz:w.heap.size<=w'.heap.size:=hk.size;have hnew:∀id e,(Key.head id,e)∈ws->∃(i:Nat) (g':Gh),nm[i]?=some id/\fin'[i]?=some (g',(e.row,e.ob))/\(Owned γ' id e->g'.nil=false/\(γ' id).blk=g'.blk):=λid e hm=>by
  obtain⟨q0,i,g,_,p1,p2,p3⟩:=k4 id e hm;rw[hf2]at p2;cases hfi:fin'[i]? with
  |none=>rw[hfi]at p2;simp at p2
  |some x =>
   rw[hfi]at p2;simp only[AD,p1,AH,Bv]at p2;obtain⟨x1,x2⟩:=x;simp only at p2;refine⟨i,x1,p1,by rw[hfi,p2.2],λho=>?_⟩;have hs:=hsim i _ (γ' id,x2) hfi (by rw[hf2,hfi];simp[p1]);have hn:(γ' id).nil=false:=by
    rcases p3 with⟨_,_,rfl⟩ | ⟨_,rfl⟩ | ⟨_,_,_,rfl⟩
    ·exact ho
    ·exact q0.1
    ·exact q0.1
   have:x1.nil=false:=by have:=hs.2.1;simp only at this;rw[this];exact hn
   exact⟨this,(hs.2.2.1 this).symm⟩
 refine⟨γ',{ keep:=?_,head:=λid e he=>?_,own:=λid e he ho=>?_,inj:=λid e id' e' he he' ho ho' hbk=>?_,nt:=h.nt,q2p:=h.q2p,pin:=h.pin,slot:=λt s hs=>?_ },k2,λt=>?_⟩
 ·exact { size:=AZ h.keep.size hsz
          block:=λb q1 q2=>by
            rw[hw0 b (AP q1 h.keep.size) λhg=>?_,h.keep.block b q1 q2];rcases(hgiven b hg).2 with q | q
            · exact q2 q
            · omega
          os:=hk.os.trans h.keep.os,tape:=hk.tape.trans h.keep.tape,output:=hk.output.trans h.keep.output
          tab:=h.keep.tab
          bound:=λb q=>hk.bound b (s' b q),smon:=λb q=>s2 b (h.keep.smon b q)
          q8l:=λb q=>by
            rcases sf b q with q | q | q
            · exact h.keep.q8l b q
            · exact .inr (hgiven b q).2
            · exact .inr (.inr (AZ h.keep.size q)) }
 ·rcases cases' id e he with q1 | ⟨q1,_⟩ | ⟨q1,q2,q3,q4⟩
  ·exact(k4 id e q1).1
  ·subst q1;trivial
  ·have hM:∃e0,hdOf M id=some e0:=by
    cases q:hdOf M id with
    |some e0=>exact⟨e0,rfl⟩
    |none=>have:=qw.qag hus q;rw[this]at q1;cases q1
   obtain⟨e0,he0⟩:=hM;refine(h.head id e q1).go hws s2 hhd (hγold id e0 he0) (λj=>?_) λho=>?_
   ·rw[hget,q4,htslot _ (by simp)];simp
   ·exact hw0 _ (h.own id e q1 ho).1 (hother id e q1 q3 ho)
 ·rcases cases' id e he with q1 | ⟨q1,_⟩ | ⟨q1,q2,q3,q4⟩
  ·obtain⟨i,g',p1,p2,p3⟩:=hnew id e q1;obtain⟨p4,p5⟩:=p3 ho;obtain⟨r1,r2,r3⟩:=hgo.own i g' _ p2 p4;rw[p5];refine⟨r1,λq=>r2 (s' _ q),?_⟩;rcases r3 with r3 | r3
   ·exact(hgiven _ r3).2
   ·exact .inr (AZ h.keep.size r3)
  ·subst q1;exact ho.elim
  ·have hM:∃e0,hdOf M id=some e0:=by
    cases q:hdOf M id with
    |some e0=>exact⟨e0,rfl⟩
    |none=>have:=qw.qag hus q;rw[this]at q1;cases q1
   obtain⟨e0,he0⟩:=hM;have hg:=hγold id e0 he0;have ho':=Owned.congr hg ho;obtain⟨r1,r2,r3⟩:=h.own id e q1 ho';rw[hg];refine⟨AP r1 hsz,λq=>?_,r3⟩;rcases sf _ q with q | q | q
   ·exact r2 q
   ·exact hother id e q1 q3 ho' q
   ·omega
 ·have old:∀id e,hdOf (us0++M) id=some e->γ' id=γ id:=λid e he=>by
   cases q:hdOf M id with
   |some e0=>exact hγold id e0 q
   |none=>have:=qw.qag hus q;rw[this]at he;cases he
  have mix:∀id e id' e',(Key.head id,e)∈ws->Owned γ' id e->hdOf (us0++M) id'=some e'->some id' ∉ ids->Owned γ' id' e'->(γ' id).blk≠(γ' id').blk:=λid e id' e' q1 q2 q3 q4 q5 q6=>by
   obtain⟨i,g',p1,p2,p3⟩:=hnew id e q1;obtain⟨p4,p5⟩:=p3 q2;have hg:=old id' e' q3;have ho':=Owned.congr hg q5;have hlt:=(h.own id' e' q3 ho').1;have hno:=hother id' e' q3 q4 ho';rw[hg,p5]at q6;rcases(hgo.own i g' _ p2 p4).2.2 with r | r
   ·rw[q6]at r;exact hno r
   ·simp only at r;omega
  rcases cases' id e he with q1 | ⟨q1,_⟩ | ⟨q1,_,q3,_⟩
  ·rcases cases' id' e' he' with p1 | ⟨p1,_⟩ | ⟨p1,_,p3,_⟩
   ·obtain⟨i,g,r1,r2,r3⟩:=hnew id e q1;obtain⟨r4,r5⟩:=r3 ho;obtain⟨i',g',t1,t2,t3⟩:=hnew id' e' p1;obtain⟨t4,t5⟩:=t3 ho';have:=hgo.inj i i' g g' _ _ r2 t2 r4 t4 (by rw[<- r5,<- t5];exact hbk);subst this;rw[r1]at t1;cases t1;rfl
   ·subst p1;exact ho'.elim
   ·exact absurd hbk (mix id e id' e' q1 ho p1 p3 ho')
  ·subst q1;exact ho.elim
  ·rcases cases' id' e' he' with p1 | ⟨p1,_⟩ | ⟨p1,_,p3,_⟩
   ·exact absurd hbk.symm (mix id' e' id e p1 ho' q1 q3 ho)
   ·subst p1;exact ho'.elim
   ·have g1:=old id e q1;have g2:=old id' e' p1;rw[g1,g2]at hbk;exact h.inj id e id' e' q1 p1 (Owned.congr g1 ho) (Owned.congr g2 ho') hbk
 ·rw[hget,hslot,htslot _ (by simp)]at hs;simp only[CI]at hs;exact(h.slot t s hs).mono hws s2 hhd
 ·rw[hget,hslot,htslot _ (by simp),Mem.get_append,huslot _ (by simp)];simp
end
end
section
def Enters(P:Program)(f:FuncId):Prop:=∃fn,P.funcs[f]?=some fn/\fn.body.isSome=true/\(fn.name == "runtime.NumGoroutine")=false
def resV(R:List Value):Value:=match R with | [r]=>r | R=>.tuple R.toArray
def q31(P:Program)(f:FuncId)(i:FnI)(L L':List FV):Prop :=
 ∀(w:World) (S:Nat->Prop) (V:List Value) (G:GA),(∀b,S b->b<w.heap.size)->Tabs w S->TRep w S i.tin V L [] G->GOk ⟨w,S,q2b G,0,λ_=>none⟩ w S G ->
  Calls P f V.toArray w λe w'=>∃S' fin' R,e=.returned (resV R)/\TRep w' S' i.tout (V++R) L' [] fin'/\Keep ⟨w,S,q2b G,0,λ_=>none⟩ w' S'/\GOk ⟨w,S,q2b G,0,λ_=>none⟩ w' S' fin'
def q5c(E:Env)(call:FuncId->List FV->Res):Prop:=∀f i L L',E.fn f=some i->call f L=some L'->Enters E.P (vb f)/\q31 E.P (vb f) i L L'
section
variable {E:Env} {call:FuncId->List FV->Res} {X:Cx} {M:Mem} {a:Act} {w:World} {γ:Nat->Gh} {S:Nat->Prop} {us:List (Key×Ent)} {o:Oper}
theorem qm1{t:RT}:∀ {ids:List Nat},Gets (freshAll ids t) M us->(∀id,id∈ids->hdOf M id=none)/\Gets t M us
 |[],h=>⟨λid h=>by simp at h,h⟩
 |id::ids,h=>by
  unfold freshAll at h;obtain⟨h1,h2⟩:=q7p h;obtain⟨h3,h4⟩:=qm1 h2;exact⟨λi hi=>(Ar.1 hi).elim (λq=>by rw[q];exact h1) (h3 i),h4⟩
theorem qm2{k:IntKind}{x:Option FV}{n:Int}(h:asInt k x=some n):x=some (.int k n):=by
 unfold asInt at h;split at h
 ·split at h
  ·rename_i q;subst q;cases h;rfl
  ·simp at h
 ·simp at h
theorem qtw{x:Option FV}{n:Bool}(h:asBool x=some n):x=some (.bool n):=by
 unfold asBool at h;split at h
 ·cases h;rfl
 ·simp at h
theorem qtx{x:Option FV}{n:ByteArray}(h:asStr x=some n):x=some (.str n):=by
 unfold asStr at h;split at h
 ·cases h;rfl
 ·simp at h
theorem qhk{sz:Nat}{xs ys:List FV}{x:Option FV}(h:asLst sz x=some ys)(hx:x=some (.list sz xs)):ys=xs:=by
 subst hx;simp[asLst]at h;exact h.symm
theorem q8v{L:List FV}:∀ {T:List Tok} {j:Nat} {f:List FV->RT},Gets (dec L j T f) M us ->
  ∃L2,Gets (f L2) M us/\∀(w:World) (S:Nat->Prop) (V:List Value) (acc fin:GA),TRep w S T V (L.drop j) acc fin->L2=L.drop j
 |[],j,f,h=>⟨[],h,λw S V acc fin hT=>hT.2.1.symm⟩
 |t::T,j,f,h=>by
  have leaf:∀ {x:FV},(∀(w:World) (S:Nat->Prop) (V:List Value) (acc fin:GA),TRep w S (t::T) V (L.drop j) acc fin->∃V' acc',L[j]?=some x/\TRep w S T V' (L.drop (j+1)) acc' fin) ->
    Gets (dec L (j+1) T λr=>f (x::r)) M us->∃L2,Gets (f L2) M us/\∀(w:World) (S:Nat->Prop) (V:List Value) (acc fin:GA),TRep w S (t::T) V (L.drop j) acc fin->L2=L.drop j:=by
   intro x hx hg;obtain⟨L2,h1,h2⟩:=q8v hg;refine⟨x::L2,h1,λw S V acc fin hT=>?_⟩;obtain⟨V',acc',q1,q2⟩:=hx w S V acc fin hT;obtain⟨hlt,hxx⟩:=Ao.1 q1;rw[h2 w S V' acc' fin q2,<- hxx,AY hlt]
  have hd:∀ {y:FV} {L':List FV},L.drop j=y::L'->L[j]?=some y/\L'=L.drop (j+1):=fun {y L'} h=>by
   have hlt:j<L.length:=by
    apply BS;intro hn;rw[Ft (by omega)]at h;cases h
   rw[AY hlt]at h;cases h;exact⟨Ag hlt,rfl⟩
  unfold dec at h;cases t with
  |int k =>
   obtain⟨n,h1,h2⟩:=qe0 h;refine leaf (λw S V acc fin hT=>?_) h2;obtain⟨v,V',x,L',_,q,_,_,hT⟩:=hT;obtain⟨_,rfl⟩:=hd q;exact⟨V',acc,qm2 h1,hT⟩
  |bool =>
   obtain⟨n,h1,h2⟩:=qkg h;refine leaf (λw S V acc fin hT=>?_) h2;obtain⟨v,V',x,L',_,q,_,_,hT⟩:=hT;obtain⟨_,rfl⟩:=hd q;exact⟨V',acc,qtw h1,hT⟩
  |str =>
   obtain⟨n,h1,h2⟩:=qf1 h;refine leaf (λw S V acc fin hT=>?_) h2;obtain⟨v,V',x,L',_,q,_,_,hT⟩:=hT;obtain⟨_,rfl⟩:=hd q;exact⟨V',acc,qtx h1,hT⟩
  |lst sz =>
   obtain⟨n,h1,h2⟩:=qao h;refine leaf (λw S V acc fin hT=>?_) h2;obtain⟨v,V',x,L',_,q,hl,_,hT⟩:=hT;obtain⟨q1,rfl⟩:=hd q;cases x <;> simp only[leafT]at hl;subst hl;have:=qhk h1 q1;subst this;exact⟨V',acc,q1,hT⟩
  |own sz =>
   obtain⟨n,h1,h2⟩:=qao h;refine leaf (λw S V acc fin hT=>?_) h2;obtain⟨g,xs,V',L',_,q,_,hT⟩:=hT;obtain⟨q1,rfl⟩:=hd q;have:=qhk h1 q1;subst this;exact⟨V',_,q1,hT⟩
  |fn=>exact(qh h).elim
  |fpt sz =>
   obtain⟨n,h1,h2⟩:=qao h;refine leaf (λw S V acc fin hT=>?_) h2;obtain⟨v,V',x,L',_,q,hl,_,hT⟩:=hT;obtain⟨q1,rfl⟩:=hd q;cases x <;> simp only[leafT]at hl;subst hl;rw[q1]at h1;simp only[asRef,AW,AH]at h1;subst h1;exact⟨V',acc,q1,hT⟩
  |raw u =>
   refine leaf (λw S V acc fin hT=>?_) h;obtain⟨v,V',x,L',_,q,hl,_,hT⟩:=hT;obtain⟨q1,rfl⟩:=hd q;cases x <;> simp only[leafT]at hl;obtain⟨rfl,_⟩:=hl;exact⟨V',acc,q1,hT⟩
  |skip =>
   obtain⟨L2,h1,h2⟩:=q8v h;refine⟨L2,h1,λw S V acc fin hT=>?_⟩;obtain⟨v,V',_,hT⟩:=hT;exact h2 _ _ _ _ _ hT
  |obj k =>
   obtain⟨L2,h1,h2⟩:=q8v h;refine⟨L2,h1,λw S V acc fin hT=>?_⟩;obtain⟨g,vals,e,V',_,_,_,_,hT⟩:=hT;exact h2 _ _ _ _ _ hT
  |ref i =>
   obtain⟨L2,h1,h2⟩:=q8v h;refine⟨L2,h1,λw S V acc fin hT=>?_⟩;obtain⟨g,r,k,V',_,_,_,hT⟩:=hT;exact h2 _ _ _ _ _ hT
  |agg k =>
   obtain⟨L2,h1,h2⟩:=q8v h;refine⟨L2,h1,λw S V acc fin hT=>?_⟩;obtain⟨cs,V',_,_,hT⟩:=hT;exact h2 _ _ _ _ _ hT
  |clo fn k =>
   obtain⟨L2,h1,h2⟩:=q8v h;refine⟨L2,h1,λw S V acc fin hT=>?_⟩;obtain⟨cs,V',_,_,hT⟩:=hT;exact h2 _ _ _ _ _ hT
  |mapt kag ks z =>
   obtain⟨es,h1,h2⟩:=qao h;obtain⟨clk,h3,h4⟩:=qe0 h2;obtain⟨L2,q1,q2⟩:=q8v h4;refine⟨_,q1,λw S V acc fin hT=>?_⟩;obtain⟨g,es',clk',V',L',_,q,_,_,hT⟩:=hT;obtain⟨p1,p2⟩:=hd q;have hlt:j+1<L.length:=by
    apply BS;intro hn;rw[Ft (by omega)]at p2;cases p2
   rw[AY hlt]at p2;simp only[Ba]at p2;obtain⟨p3,rfl⟩:=p2;have e1:=qhk h1 p1;subst e1;have e2:=qm2 h3;rw[Ag hlt,<- p3]at e2;simp only[AH,FV.int.injEq,CX]at e2;rw[q2 w S V' _ fin hT,q,e2]
theorem run_enter{P:Program}{f:FuncId}{args:Array Value}(h:Enters P f):(callFunc f args).run P w=.ok (.enter f args) w:=by
 obtain⟨fn,h1,h2,h3⟩:=h;have h4:fn.name ≠ "runtime.NumGoroutine":=by simpa using h3
 have h5:fn.body≠none:=by intro q;rw[q]at h2;cases h2
 simp[callFunc,h1,h4,h5,program,Sem.run]
theorem gok_self{S:Nat->Prop}{G:GA}(h:GOk X w S G):GOk ⟨w,S,q2b G,0,λ_=>none⟩ w S G :=
 ⟨λi g sh q1 q2=>let q:=h.own i g sh q1 q2;⟨q.1,q.2.1,.inl ⟨i,g,sh,q1,q2,rfl⟩⟩,h.inj⟩
theorem io_tops{w w':World}{S S':Nat->Prop}{T U:List Tok}{V R:List Value}{L L':List FV}{G fin':GA}(h:okIO T U=true)(hT:TRep w S T V L [] G)(hU:TRep w' S' U (V++R) L' [] fin') :
  (q61 T U).length=G.length/\∀j:Nat,(q61 T U)[j]?=some true->∃x y,G[j]?=some x/\fin'[j]?=some y/\GSim x y:=by
 have hl:=q7m (n:=0) hT;unfold okIO at h;unfold q61;cases hg:giveOk T U with
 |false =>
  rw[hg,BR]at h;rw[Ab];refine⟨by simpa using hl.symm,λj hj=>?_⟩;obtain⟨x,y,p1,p2,p3⟩:=q3i (V1:=[]) (V2:=[]) h rfl rfl hT hU rfl j hj;exact⟨x,y,by simpa using p1,by simpa using p2,p3⟩
 |true =>
  rw[Ac];refine⟨?_,λj hj=>by cases j <;> simp at hj⟩;unfold giveOk at hg;split at hg
  ·simpa[tops]using hl.symm
  ·cases hg
theorem qtz(hC:q5c E call)(h:Rel X M a w γ S){d:Nat}(hd:X.Dst d){f:FuncId}{svs:List SV}{V:List Value}(hs:All2 (SRep w S γ (hdOf M)) svs V)(hg:Gets (callOp0 E call (some d) f svs) M us) :
  Enters E.P (vb f)/\Calls E.P (vb f) V.toArray w λe w'=>∃v γ' S',e=.returned v/\Rel X (us++M) (a.put (some d) v) w' γ' S':=by
 unfold callOp0 at hg;split at hg
 ·rename_i i d' hi hd';cases hd';obtain⟨hb,hg⟩:=q16 hg;simp only[Ai]at hb;obtain⟨hio,hfi,hfo⟩:=hb;obtain⟨L,ids,fz,G,hG,hfz,_,hap,hids,_,hg1,hT⟩:=gets_ext h hs (acc:=[]) (accG:=[]) ⟨λj id h=>by simp at h,λi j id h=>by simp at h⟩ .nil (qw.nil M) hg;obtain⟨L',hcall,hg2⟩:=qao hg1;obtain⟨L2,hg3,hdec⟩:=q8v hg2;split at hg3
  ·rename_i ws rs hbld;obtain⟨hfr,hg4⟩:=qm1 hg3;have hus:=q2w hg4;obtain⟨hent,hspec⟩:=hC f i L L' hi hcall;refine⟨hent,?_⟩;obtain⟨S1,s1,_,hR1⟩:=h.q8p hfz;have hT1:=hT S1 s1 hR1;have gok1:GOk X w S1 G:=.of hR1 hG hids hap;refine(hspec w S1 V G hR1.keep.bound hR1.keep.tabs hT1 (gok_self gok1)).mono ?_;rintro e w' ⟨S',fin',R,rfl,hU,hk,hgo⟩;have hL2:L2=L':=by simpa using hdec w' S' (V++R) [] fin' (by simpa using hU)
   subst hL2;obtain⟨hbl,hio⟩:=io_tops hio hT1 hU;have fin:∃us0 S'',us=(.slot d,.sv (match rs.drop svs.length with | [r]=>r | rs=>.tup rs))::(ws++(tombsOf (q61 i.tin i.tout) ids++us0)) /\
     ∃ γ',Rel X (ws++(tombsOf (q61 i.tin i.tout) ids++us0)++M) a w' γ' S''/\All2 (SRep w' S'' γ' (hdOf (ws++(tombsOf (q61 i.tin i.tout) ids++us0)++M))) rs (V++R) /\
      ∀t,Mem.get (.slot t) (ws++(tombsOf (q61 i.tin i.tout) ids++us0)++M)=Mem.get (.slot t) M:=by
    cases hsc:scalarOut i.tout with
    |true =>
     rw[hsc]at hus;refine⟨[],S,hus,?_⟩
     exact rel_called hR1 (us0:=[]) (S2:=S) h (qw.nil M) hG hids hap (by
      clear hfr hus hG hap hids hT hT1 gok1 hg1
      induction ids with
      |nil=>rfl
      |cons _ _ _=>rfl) hT1 (hU.scalar hsc) hk hgo hbl hio hfo hbld hfr s1 (λb h=>h) (λb h=>hk.smon b (s1 b h)) (λb h=>.inl h)
    |false =>
     rw[hsc]at hus;refine⟨fz,S',hus,?_⟩;exact rel_called hR1 hR1 hfz hG hids hap hap hT1 hU hk hgo hbl hio hfo hbld hfr (λb h=>h) hk.smon (λb h=>h) hk.q8l
   obtain⟨us0,S'',hus2,γ',hR,hall,_⟩:=fin;have hres:=hall.drop svs.length;rw[hs.len,Ez rfl]at hres;refine⟨resV R,γ',S'',rfl,?_⟩;rw[hus2];refine hR.put hd ?_;rw[hs.len];generalize rs.drop V.length=qs at hres;cases hres with
   |nil=>exact .tup rfl (λj s hj=>by simp at hj)
   |cons hx hr =>
    cases hr with
    |nil=>exact hx
    |cons hy hr =>
     obtain⟨q1,q2⟩:=(All2.cons hx (.cons hy hr)).toArr (vs:=List.toArray _);exact .tup q1 q2
  ·exact(qh hg3).elim
 ·exact(qh hg).elim
theorem callOp_ok(hC:q5c E call)(h:Rel X M a w γ S){d:Nat}(hd:X.Dst d){f:FuncId}{svs:List SV}{V:List Value}(hs:All2 (SRep w S γ (hdOf M)) svs V)(hg:Gets (qcc E call (some d) f svs) M us) :
  Enters E.P f/\Calls E.P f V.toArray w λe w'=>∃v γ' S',e=.returned v/\Rel X (us++M) (a.put (some d) v) w' γ' S':=by
 unfold qcc at hg;obtain⟨hb,hg⟩:=q16 hg;have:=qtz hC h hd hs hg;rw[Aw hb]at this;exact this
theorem sim_call{fx:Operand}{args:Array Operand}{ats:Array TypeId}(hC:q5c E call)(h:Rel X M a w γ S)(hd:∀d,o.dst=some d->X.Dst d)(hop:o.op=.call { callee:=.value fx,args:=args,argTypes:=ats })
  (hg0:Gets (rtOp E call o) M us):Goal E.P X M o a w us:=by
 simp only[rtOp,hop]at hg0;obtain⟨s,hs,hg1⟩:=q1k h hg0;obtain⟨ss,hl,hss,hg2⟩:=qbq h hg1;clear hg0 hg1;have hargs:All2 (SRep w S γ (hdOf M)) ss (args.map a.eval).toList:=.of (by simp[hl]) λj x y h1 h2=>by
  have hj:j<args.toList.length:=by rw[<- hl];exact(Ao.1 h1).1
  obtain⟨s',q1,q2⟩:=hss j args.toList[j] (Ag hj);rw[h1]at q1;cases q1;rw[DP,Bq,Ag hj]at h2;simp only[AD,AH]at h2;rw[<- h2];exact q2
 have fin:∀(g:FuncId) (cs:List SV) (c:Array Value),a.eval fx=.func (.func g) #[] c->All2 (SRep w S γ (hdOf M)) cs c.toList->Gets (qcc E call o.dst g (ss++cs)) M us->Goal E.P X M o a w us:=by
  intro g cs c hv hcs hg;cases hdst:o.dst with
  |none =>
       rw[hdst]at hg;unfold qcc at hg;obtain⟨_,hg⟩:=q16 hg;unfold callOp0 at hg;split at hg
       ·rename_i h;cases h
       ·exact(qh hg).elim
  |some d =>
   rw[hdst]at hg;obtain⟨hent,hcalls⟩:=callOp_ok hC h (hd d hdst) (hargs.app hcs) hg;have harr:((args.map a.eval).toList++c.toList).toArray=args.map a.eval++c:=by simp
   rw[harr]at hcalls;have hrun:(execOp a.eval o).run E.P w=.ok (.enter g (args.map a.eval++c)) w:=by
    simp[execOp,hop,resolve,hv,Deferred.ofValue,invoke,run_enter hent]
   intro next Q hn
   unfold Oper.wp;rw[hrun,Oper.upon_enter];refine hcalls.mono ?_;rintro e w' ⟨v,γ',S',rfl,hR⟩;rw[<- hdst]at hR;exact hn v w' γ' S' hR
 unfold callee at hg2;split at hg2
 ·rename_i g;have:=hs.qaw;refine fin g [] #[] this .nil ?_;exact hg2
 ·rename_i g cs;obtain⟨f,c,hv,hf,hc,_,hr⟩:=hs.clo_inv;have:f=#[]:=by apply De;simpa using hf
  subst this;exact fin g cs c hv (.ofArr hc hr) hg2
 ·exact(qh hg2).elim
end
end
section
theorem qh7{d:Nat}:∀ {l:List Nat},notElem d l=true->d ∉ l
 |[],_=>by simp
 |x::r,h=>by
  simp only[notElem,Ai,Ch]at h;have h1:x≠d:=λe=>by subst e;simp at h
  simpa[BO h1]using qh7 h.2
section
variable {E:Env} {call:FuncId->List FV->Res} {X:Cx} {M:Mem} {a:Act} {w:World} {γ:Nat->Gh} {S:Nat->Prop} {us:List (Key×Ent)} {o:Oper}
theorem sim_op(hE:q15 E)(hC:q5c E call)(h:Rel X M a w γ S){nt:Nat}{pins:List Nat}(hnt:nt<=X.nt)(hpin:∀d,d ∉ pins->X.pin d=none)(ho:opOk nt pins o=true)(hg:Gets (rtOp E call o) M us):Goal E.P X M o a w us:=by
 have hd:∀d,o.dst=some d->X.Dst d:=λd hd=>by
  simp only[opOk,hd,Ai]at ho;exact⟨AP (Bz ho.1.1) hnt,hpin d (qh7 ho.1.2)⟩
 cases hop:o.op with
 |move x=>exact ql9 h hd (.inl hop) (by simpa only[rtOp,hop]using hg)
 |assign x=>exact ql9 h hd (.inr hop) (by simpa only[rtOp,hop]using hg)
 |pick c x y=>exact sim_pick h hd hop hg
 |alloc t=>exact sim_alloc hE h hd hop hg
 |box t x=>exact sim_box hE h hd hop hg
 |build t ps=>exact sim_build hE h hd hop hg
 |buildSlice t n ps=>exact qs5 hE h hd hop hg
 |load t x=>exact sim_load hE h hd hop hg
 |store t x y =>
  refine sim_store hE h hop ?_ hg;simp only[opOk,hop,Ai]at ho;cases hd':o.dst with
  |none=>rfl
  |some d=>rw[hd']at ho;simp at ho
 |nilCheck x=>exact qs8 h hd hop hg
 |binOp op t x y t'=>exact sim_binOp hE h hd hop hg
 |unOp op t x=>exact sim_unOp h hd hop hg
 |convert s d x=>exact qo3 hE h hd hop hg
 |makeFunc fn f c=>exact qrj h hd hop hg
 |makeSlice t x y=>exact qs7 hE h hd hop hg
 |slice t x l hi m=>exact sim_slice hE h hd hop hg
 |fieldAddr t x f=>exact qrk hE h hd hop hg
 |field t x f=>exact sim_field hE h hd hop hg
 |indexAddr t x y=>exact qrm hE h hd hop hg
 |index t x y=>exact sim_index hE h hd hop hg
 |extract x j=>exact qrl h hd hop hg
 |makeMap t r =>
  cases r with
  |none=>exact qrt hE h hd hop hg
  |some _=>simp only[rtOp,hop]at hg;exact(qh hg).elim
 |lookup t x y ok=>exact qro hE h hd hop hg
 |mapUpdate t x y z=>exact qky hE h (.inl hop) hg
 |insert t x y z=>exact qky hE h (.inr hop) hg
 |mapEntry t x y=>exact qrr hE h hd hop hg
 |entryStore t x y z=>exact qrs hE h hop hg
 |call c =>
  obtain⟨cl,args,ats⟩:=c;cases cl with
  |value fx=>exact sim_call hC h hd hop hg
  |builtin b=>exact qs9 hE h hd hop hg
  |invoke r m=>simp only[rtOp,hop]at hg;exact(qh hg).elim
 |_=>simp only[rtOp,hop]at hg;exact(qh hg).elim
theorem qh8{M M':Mem}:∀ {t:RT} {us:List (Key×Ent)} {lg:List Key},t.get M=some (us,lg)->(∀k,k∈lg->Mem.get k M'=Mem.get k M)->t.get M'=some (us,lg):=by
 intro t
 induction t with
 |ret us0=>intro us lg h _;simpa[RT.get]using h
 |fail=>intro us lg h _;simp[RT.get]at h
 |rd k f ih =>
  intro us lg h hk;simp only[RT.get]at h ⊢;cases he:Mem.get k M with
  |none=>simp[he]at h
  |some e =>
   simp only[he]at h;cases hf:(f e).get M with
   |none=>simp[hf]at h
   |some r =>
    simp only[hf,AD,AH,Bv]at h;obtain⟨h1,h2⟩:=h;rw[hk k (by rw[<- h2];exact AF),he];simp only;rw[ih e hf (λk' hk'=>hk k' (by rw[<- h2];exact AA _ hk'))];simp[h1,h2]
 |fresh id t ih =>
  intro us lg h hk;simp only[RT.get]at h ⊢;cases he:Mem.get (.head id) M with
  |some e=>simp[he]at h
  |none =>
   simp only[he]at h;cases hf:t.get M with
   |none=>simp[hf]at h
   |some r =>
    simp only[hf,AD,AH,Bv]at h;obtain⟨h1,h2⟩:=h;rw[hk (.head id) (by rw[<- h2];exact AF),he];simp only;rw[ih hf (λk' hk'=>hk k' (by rw[<- h2];exact AA _ hk'))];simp[h1,h2]
 |int x f ih =>
  intro us lg h hk;simp only[RT.get]at h ⊢;cases x with
  |none=>simp at h
  |some n=>exact ih n h hk
 |nat x f ih =>
  intro us lg h hk;simp only[RT.get]at h ⊢;cases x with
  |none=>simp at h
  |some n=>exact ih n h hk
 |boo x f ih =>
  intro us lg h hk;simp only[RT.get]at h ⊢;cases x with
  |none=>simp at h
  |some n=>exact ih n h hk
 |str x f ih =>
  intro us lg h hk;simp only[RT.get]at h ⊢;cases x with
  |none=>simp at h
  |some n=>exact ih n h hk
 |lst x f ih =>
  intro us lg h hk;simp only[RT.get]at h ⊢;cases x with
  |none=>simp at h
  |some n=>exact ih n h hk
 |cnd b t e iht ihe =>
  intro us lg h hk;simp only[RT.get]at h ⊢;cases b
  ·exact ihe h hk
  ·exact iht h hk
theorem run_get{M:Mem}{R:List FV}:∀ {t:RT} {lg:List Key} {K:List (Key×Ent)->List Key->Res},t.run M lg K=some R ->
  ∃us l,t.get M=some (us,l)/\K us (l.reverse++lg)=some R:=by
 intro t
 induction t with
 |ret us0=>intro lg K h;exact⟨us0,[],rfl,h⟩
 |fail=>intro lg K h;simp[RT.run]at h
 |rd k f ih =>
  intro lg K h;simp only[RT.run]at h;simp only[RT.get];cases he:Mem.get k M with
  |none=>simp[he]at h
  |some e =>
   simp only[he]at h;obtain⟨us,l,h1,h2⟩:=ih e h;exact⟨us,k::l,by simp[h1],by simpa using h2⟩
 |fresh id t ih =>
  intro lg K h;simp only[RT.run]at h;simp only[RT.get];cases he:Mem.get (.head id) M with
  |some e=>simp[he]at h
  |none =>
   simp only[he]at h;obtain⟨us,l,h1,h2⟩:=ih h;exact⟨us,.head id::l,by simp[h1],by simpa using h2⟩
 |int x f ih =>
  intro lg K h;simp only[RT.run]at h;cases x with
  |none=>simp at h
  |some n=>exact ih n h
 |nat x f ih =>
  intro lg K h;simp only[RT.run]at h;cases x with
  |none=>simp at h
  |some n=>exact ih n h
 |boo x f ih =>
  intro lg K h;simp only[RT.run]at h;cases x with
  |none=>simp at h
  |some n=>exact ih n h
 |str x f ih =>
  intro lg K h;simp only[RT.run]at h;cases x with
  |none=>simp at h
  |some n=>exact ih n h
 |lst x f ih =>
  intro lg K h;simp only[RT.run]at h;cases x with
  |none=>simp at h
  |some n=>exact ih n h
 |cnd b t e iht ihe =>
  intro lg K h;simp only[RT.run]at h;cases b
  ·exact ihe h
  ·exact iht h
def StepOk(E:Env)(call:FuncId->List FV->Res)(ops:Array Oper)(o:Oper)(M:Mem)(us:List (Key×Ent))(lg:List Key):Prop :=
 match o.guard with
 |none=>∃l,(rtOp E call o).get M=some (us,l)/\∀k,k∈l->k∈lg
 |some (j,want)=>(∃g b,(ops[j]?).bind (·.dst)=some g/\M.get (.slot g)=some (.sv (.fv (.bool b)))/\Key.slot g∈lg /\
   ((b=want/\∃l,(rtOp E call o).get M=some (us,l)/\∀k,k∈l->k∈lg)\/(b≠want/\us=match o.dst with | some d=>[(.slot d,.sv .gone)] | none=>[]))) \/
   ∃g,(ops[j]?).bind (·.dst)=some g/\M.get (.slot g)=some (.sv .gone)/\Key.slot g∈lg/\us=match o.dst with | some d=>[(.slot d,.sv .gone)] | none=>[]
theorem SRep.gone_inv{hd:Nat->Option Ent}{v:Value}(h:SRep w S γ hd .gone v):v=undef:=by
 cases h with
 |gone=>rfl
 |tomb hs _=>simp[SV.refId]at hs
theorem StepOk.near{ops:Array Oper}{M':Mem}{lg:List Key}(h:StepOk E call ops o M us lg)(hk:∀k,k∈lg->Mem.get k M'=Mem.get k M):StepOk E call ops o M' us lg:=by
 unfold StepOk at h ⊢;split
 ·rename_i hgd;rw[hgd]at h;obtain⟨l,h1,h2⟩:=h;exact⟨l,qh8 h1 λk q=>hk k (h2 k q),h2⟩
 ·rename_i j want hgd;rw[hgd]at h;rcases h with⟨g,b,h1,h2,h3,h4⟩ | ⟨g,h1,h2,h3,h4⟩
  ·refine .inl ⟨g,b,h1,by rw[hk _ h3];exact h2,h3,?_⟩;rcases h4 with⟨h4,l,h5,h6⟩ | h4
   ·exact .inl ⟨h4,l,qh8 h5 λk q=>hk k (h6 k q),h6⟩
   ·exact .inr h4
  ·exact .inr ⟨g,h1,by rw[hk _ h3];exact h2,h3,h4⟩
theorem qiq{ops:Array Oper}{i:Nat}{lg:List Key}(hE:q15 E)(hC:q5c E call)(h:Rel X M a w γ S){nt:Nat}{pins:List Nat}(hnt:nt<=X.nt)(hpin:∀d,d ∉ pins->X.pin d=none)(ho:opOk nt pins o=true)(hi:ops[i]?=some o)(hs:StepOk E call ops o M us lg)
  {next:Act->World->Prop} {Q:Exit->Act->World->Prop} (hn:∀a' w' γ' S',Rel X (us++M) a' w' γ' S'->next a' w'):wpOp E.P ops Q i next a w:=by
 unfold wpOp;simp only[hi];have skip:us=(match o.dst with | some d=>[(.slot d,.sv .gone)] | none=>[])->next (a.put o.dst undef) w:=λhus=>by
  have hd:∀d,o.dst=some d->X.Dst d:=λd hd=>by
   simp only[opOk,hd,Ai]at ho;exact⟨AP (Bz ho.1.1) hnt,hpin d (qh7 ho.1.2)⟩
  cases hdst:o.dst with
  |none=>rw[hdst]at hus;subst hus;exact hn _ _ _ _ h
  |some d =>
   rw[hdst]at hus;subst hus;exact hn _ _ _ _ (h.put (hd d hdst) .gone)
 have exec:(∃l,(rtOp E call o).get M=some (us,l))->o.wp E.P a w next Q:=λ⟨l,hl⟩ =>
  sim_op hE hC h hnt hpin ho ⟨l,hl⟩ next Q λv w' γ' S' hR=>hn _ _ _ _ hR
 unfold StepOk at hs;cases hgd:o.guard with
 |none =>
  rw[hgd]at hs;obtain⟨l,h1,_⟩:=hs;have:Region.wanted o (yielded ops a.tmps)=true:=by simp[Region.wanted,hgd]
  rw[this,if_pos rfl];exact .inl (exec ⟨l,h1⟩)
 |some gw =>
  obtain⟨j,want⟩:=gw;rw[hgd]at hs;rcases hs with⟨g,b,h1,h2,_,h3⟩ | ⟨g,h1,h2,_,h4⟩
  case inr =>
   have hy:yielded ops a.tmps j=none:=by
    have:a.tmps.getD g undef=undef:=(h.slot g _ h2).gone_inv;simp only[yielded,h1];rw[Az]at this;cases hq:a.tmps[g]? with
    |none=>simp[hq]
    |some v=>rw[hq]at this;simp at this;subst this;simp[hq,undef]
   have hw:Region.wanted o (yielded ops a.tmps)=false:=by simp[Region.wanted,hgd,hy]
   rw[hw];simp only[Br,BH];exact skip h4
  have hy:yielded ops a.tmps j=some b:=by
   have:=(h.slot g _ h2).q49;simp only[yielded,h1];rw[Az]at this;cases hq:a.tmps[g]? with
   |none=>rw[hq]at this;simp[undef]at this
   |some v=>rw[hq]at this;simp at this;subst this;simp[hq]
  have hw:Region.wanted o (yielded ops a.tmps)=(b==want):=by simp[Region.wanted,hgd,hy]
  rcases h3 with⟨rfl,l,h4,_⟩ | ⟨hne,h4⟩
  ·rw[hw];simp only[Bi,AW];exact .inl (exec ⟨l,h4⟩)
  ·rw[hw];have:(b==want)=false:=by cases b <;> cases want <;> simp_all
   rw[this];simp only[Br,BH];exact skip h4
abbrev Tr:=List (List (Key×Ent)×List Key)
def seqM(tr:Tr)(M:Mem):Nat->Mem
 |0=>M
 |i+1=>((tr[i]?).map (·.1)).getD []++seqM tr M i
def MEq(M M':Mem):Prop:=∀k,Mem.get k M'=Mem.get k M
theorem MEq.app{M M':Mem}(h:MEq M M')(us:List (Key×Ent)):MEq (us++M) (us++M'):=λk=>by rw[Mem.get_append,Mem.get_append,h k]
theorem qh9(u:List (Key×Ent)×List Key)(tr:Tr)(M:Mem):∀i,seqM (u::tr) M (i+1)=seqM tr (u.1++M) i
 |0=>by simp[seqM]
 |i+1=>by
  have:=qh9 u tr M i;rw[seqM,this,seqM];simp
theorem qha{tr:Tr}{M M':Mem}(h:MEq M M'):∀i,MEq (seqM tr M i) (seqM tr M' i)
 |0=>h
 |i+1=>(qha h i).app _
theorem qkd{ops:Array Oper}{R:List FV}:∀ {r:List Oper} {M:Mem} {fs:List Fp} {K:Mem->List Fp->Res},evOps E call ops r M fs K=some R ->
  ∃(tr:Tr) (M':Mem),tr.length=r.length/\(∀(i:Nat) (o:Oper) (u:List (Key×Ent)×List Key),r[i]?=some o->tr[i]?=some u->StepOk E call ops o (seqM tr M i) u.1 u.2)/\MEq (seqM tr M r.length) M' /\
   K M' ((tr.map λu=>(u.2,q2d u.1)).reverse++fs)=some R
 |[],M,fs,K,h=>⟨[],M,rfl,λi o u h=>by simp at h,λ_=>rfl,by simpa[evOps]using h⟩
 |o::r,M,fs,K,h=>by
  simp only[evOps]at h;have fin:∀ {us:List (Key×Ent)} {lg:List Key} {M1:Mem},MEq (us++M) M1->StepOk E call ops o M us lg->evOps E call ops r M1 ((lg,q2d us)::fs) K=some R ->
    ∃(tr:Tr) (M':Mem),tr.length=(o::r).length/\(∀(i:Nat) (o':Oper) (u:List (Key×Ent)×List Key),(o::r)[i]?=some o'->tr[i]?=some u->StepOk E call ops o' (seqM tr M i) u.1 u.2) /\
     MEq (seqM tr M (o::r).length) M'/\K M' ((tr.map λu=>(u.2,q2d u.1)).reverse++fs)=some R:=by
   intro us lg M1 hM hs h1;obtain⟨tr,M',t1,t2,t3,t4⟩:=qkd h1;refine⟨(us,lg)::tr,M',by simp[t1],λi o' u h2 h3=>?_,?_,by simpa using t4⟩
   ·cases i with
    |zero=>simp at h2 h3;subst h2;subst h3;exact hs
    |succ i =>
     rw[qh9];exact(t2 i o' u (by simpa using h2) (by simpa using h3)).near λk _=>(qha hM i k).symm
   ·rw[Aq,qh9];exact λk=>(t3 k).trans (qha hM r.length k)
  cases hgd:o.guard with
  |none =>
   rw[hgd]at h;obtain⟨us,l,h1,h2⟩:=run_get h;refine fin (us:=us) (lg:=l.reverse++[]) (λ_=>rfl) ?_ (by simpa[q2d]using h2);unfold StepOk;rw[hgd];exact⟨l,h1,λk hk=>by simpa using hk⟩
  |some gw =>
   obtain⟨j,want⟩:=gw;rw[hgd]at h;simp only at h;split at h
   ·rename_i g hg;split at h
    ·rename_i b hb;have hput:∀b',b'=b->MEq M ((.slot g,.sv (.fv (.bool b')))::M):=λb' hbb k=>by
      rw[Mem.qj];split
      ·rename_i hk;subst hk;rw[hb,hbb]
      ·rfl
     have exec:∀b',b'=b->b=want->(rtOp E call o).run ((.slot g,.sv (.fv (.bool b')))::M) [.slot g] (λus lg=>evOps E call ops r (us++((.slot g,.sv (.fv (.bool b')))::M)) ((lg,q2d us++q2d [])::fs) K)=some R ->
       ∃(tr:Tr) (M':Mem),tr.length=(o::r).length/\(∀(i:Nat) (o':Oper) (u:List (Key×Ent)×List Key),(o::r)[i]?=some o'->tr[i]?=some u->StepOk E call ops o' (seqM tr M i) u.1 u.2) /\
     MEq (seqM tr M (o::r).length) M'/\K M' ((tr.map λu=>(u.2,q2d u.1)).reverse++fs)=some R:=λb' hbb hbw h1=>by
      obtain⟨us,l,h2,h3⟩:=run_get h1;refine fin (us:=us) (lg:=l.reverse++[.slot g]) ((hput b' hbb).app us) ?_ (by simpa[q2d]using h3);unfold StepOk;rw[hgd];exact .inl ⟨g,b,hg,hb,by simp,.inl ⟨hbw,l,qh8 h2 λk _=>(hput b' hbb k).symm,λk hk=>by simp[hk]⟩⟩
     have skip:∀b',b'=b->b≠want->(match o.dst with
       |some d=>evOps E call ops r ((.slot d,.sv .gone)::(.slot g,.sv (.fv (.bool b')))::M) (([.slot g],[.slot d])::fs) K
       |none=>evOps E call ops r ((.slot g,.sv (.fv (.bool b')))::M) (([.slot g],[])::fs) K)=some R ->
       ∃(tr:Tr) (M':Mem),tr.length=(o::r).length/\(∀(i:Nat) (o':Oper) (u:List (Key×Ent)×List Key),(o::r)[i]?=some o'->tr[i]?=some u->StepOk E call ops o' (seqM tr M i) u.1 u.2) /\
     MEq (seqM tr M (o::r).length) M'/\K M' ((tr.map λu=>(u.2,q2d u.1)).reverse++fs)=some R:=λb' hbb hbw h1=>by
      cases hdst:o.dst with
      |none =>
       rw[hdst]at h1;refine fin (us:=[]) (lg:=[.slot g]) (hput b' hbb) ?_ (by simpa[q2d]using h1);unfold StepOk;rw[hgd];exact .inl ⟨g,b,hg,hb,by simp,.inr ⟨hbw,by rw[hdst]⟩⟩
      |some d =>
       rw[hdst]at h1;refine fin (us:=[(.slot d,.sv .gone)]) (lg:=[.slot g]) ((hput b' hbb).app [(.slot d,.sv .gone)]) ?_ (by simpa[q2d]using h1);unfold StepOk;rw[hgd];exact .inl ⟨g,b,hg,hb,by simp,.inr ⟨hbw,by rw[hdst]⟩⟩
     cases b <;> cases want
     ·exact exec false rfl rfl h
     ·exact skip false rfl (by simp) h
     ·exact skip true rfl (by simp) h
     ·exact exec true rfl rfl h
    ·rename_i hb;cases hdst:o.dst with
     |none =>
      rw[hdst]at h;refine fin (us:=[]) (lg:=[.slot g]) (λ_=>rfl) ?_ (by simpa[q2d]using h);unfold StepOk;rw[hgd];exact .inr ⟨g,hg,hb,by simp,by rw[hdst]⟩
     |some d =>
      rw[hdst]at h;refine fin (us:=[(.slot d,.sv .gone)]) (lg:=[.slot g]) (λ_=>rfl) ?_ (by simpa[q2d]using h);unfold StepOk;rw[hgd];exact .inr ⟨g,hg,hb,by simp,by rw[hdst]⟩
    ·simp at h
   ·simp at h
theorem qke{ops:Array Oper}{nt:Nat}{pins:List Nat}(hE:q15 E)(hC:q5c E call)(hnt:nt<=X.nt)(hpin:∀d,d ∉ pins->X.pin d=none)(hops:∀(i:Nat) (o:Oper),ops[i]?=some o->opOk nt pins o=true){tr:Tr}(hlen:tr.length=ops.size)
  (htr:∀(i:Nat) (o:Oper) (u:List (Key×Ent)×List Key),ops[i]?=some o->tr[i]?=some u->StepOk E call ops o (seqM tr M i) u.1 u.2) {Q:Exit->Act->World->Prop}
  (hQ:∀a' w' γ' S',Rel X (seqM tr M ops.size) a' w' γ' S'->Q .normal a' w') :
  ∀(n i:Nat) (a:Act) (w:World) (γ:Nat->Gh) (S:Nat->Prop),i+n=ops.size->Rel X (seqM tr M i) a w γ S->wpOps E.P ops Q (List.range' i n) a w
 |0,i,a,w,γ,S,hi,h=>by
  have:i=ops.size:=by omega
  subst this;exact hQ a w γ S h
 |n+1,i,a,w,γ,S,hi,h=>by
  rw[BK,wpOps_cons];have hlt:i<ops.size:=by omega
  have ho:ops[i]?=some ops[i]:=Bp hlt;have hu:tr[i]?=some tr[i]:=Ag (by omega);refine qiq hE hC h hnt hpin (hops i _ ho) ho (htr i _ _ ho hu) λa' w' γ' S' hR=>?_;refine qke hE hC hnt hpin hops hlen htr hQ n (i+1) a' w' γ' S' (by omega) ?_;rw[seqM,hu];exact hR
end
end
section
theorem qij(g:Array Nat->Oper->Nat):∀(l:List Oper) (A:Array Nat),(l.foldl (λacc o=>acc.push (g acc o)) A).size=A.size+l.length/\(∀i,i<A.size->(l.foldl (λacc o=>acc.push (g acc o)) A)[i]?=A[i]?) /\
  ∀(j:Nat) (o:Oper),l[j]?=some o->∃C:Array Nat,(l.foldl (λacc o=>acc.push (g acc o)) A)[A.size+j]?=some (g C o)/\C.size=A.size+j/\∀i,i<C.size->C[i]?=(l.foldl (λacc o=>acc.push (g acc o)) A)[i]?
 |[],A=>⟨by simp,λi _=>rfl,λj o h=>by simp at h⟩
 |o::l,A=>by
  rw[Be];obtain⟨h1,h2,h3⟩:=qij g l (A.push (g A o));have hs:(A.push (g A o)).size=A.size+1:=by simp
  refine⟨by rw[h1,hs];simp;omega,λi hi=>?_,λj o' hj=>?_⟩
  ·rw[h2 i (by rw[hs];omega),FD hi,Bp hi]
  ·cases j with
   |zero =>
    simp at hj;subst hj;refine⟨A,?_,by simp,λi hi=>?_⟩
    ·rw[Ay,h2 A.size (by rw[hs];omega)];simp
    ·rw[h2 i (by rw[hs];omega),FD hi,Bp hi]
   |succ j =>
    obtain⟨C,q1,q2,q3⟩:=h3 j o' (by simpa using hj);rw[hs]at q1 q2;exact⟨C,by rw[<- q1];congr 1;omega,by omega,q3⟩
theorem qik{acc:Array Nat}{i:Nat}:∀ {l:List Edge} {s:Nat},(l.foldl (λs e=>if Region.binds .any e then s ||| 2^e.on ||| acc.getD e.on 0 else s) s).testBit i=true ->
  s.testBit i=true\/∃e,e∈l/\Region.binds .any e=true/\(e.on=i\/(acc.getD e.on 0).testBit i=true)
 |[],s,h=>.inl h
 |e::l,s,h=>by
  rw[Be]at h;rcases qik h with h1 | ⟨e',h1,h2⟩
  ·split at h1
   ·rename_i hb;rw[Nat.testBit_or,Nat.testBit_or,Nat.testBit_two_pow]at h1;simp only[DX,As]at h1;rcases h1 with(h1 | h1) | h1
    ·exact .inl h1
    ·exact .inr ⟨e,AF,hb,.inl h1⟩
    ·exact .inr ⟨e,AF,hb,.inr h1⟩
   ·exact .inl h1
  ·exact .inr ⟨e',AA _ h1,h2⟩
theorem qnz{ops:Array Oper}{j:Nat}{o:Oper}(ho:ops[j]?=some o){i:Nat}(h:((Region.before ops).getD j 0).testBit i=true) :
  ∃e,e∈o.after.toList/\Region.binds .any e=true/\(e.on=i\/((Region.before ops).getD e.on 0).testBit i=true):=by
 have hb:Region.before ops=ops.toList.foldl (λacc o=>acc.push (o.after.toList.foldl (λs e=>if Region.binds .any e then s ||| 2^e.on ||| acc.getD e.on 0 else s) 0)) #[]:=by
  unfold Region.before;rw[<- EN];congr 1;funext acc o;rw[<- EN]
 obtain⟨h1,h2,h3⟩:=qij (λacc o=>o.after.toList.foldl (λs e=>if Region.binds .any e then s ||| 2^e.on ||| acc.getD e.on 0 else s) 0) ops.toList #[];obtain⟨C,q1,q2,q3⟩:=h3 j o (by rw[By];exact ho);rw[<- hb]at h1 h2 q1 q3;simp only[List.size_toArray,Bf,AJ]at q1 q2;rw[Az,q1,Bg]at h;rcases qik h with h | ⟨e,e1,e2,e3⟩
 ·simp at h
 ·refine⟨e,e1,e2,?_⟩;rcases e3 with e3 | e3
  ·exact .inl e3
  ·right;rw[Az]at e3 ⊢;by_cases hlt:e.on<C.size
   ·rw[<- q3 e.on hlt];exact e3
   ·rw[Dj (by omega)]at e3;simp at e3
theorem qez{a b:List Key}(h:qb4 a b=true):∀k,k∈a->k ∉ b:=λk ha hb=>by
 simp only[qb4,Au,Ch,DY]at h;exact h k ha k hb ((Key.beq_iff k k).2 rfl)
structure Apart(f g:Fp):Prop where
 wr:∀k,k∈f.2->k ∉ g.1
 rw:∀k,k∈g.2->k ∉ f.1
 ww:∀k,k∈f.2->k ∉ g.2
theorem qil{bj:Nat}{f:Fp}:∀ {gs:List Fp} {i:Nat},fpOk.inner bj f i gs=true->∀(q:Nat) (g:Fp),q<=i->gs[q]?=some g->bj.testBit (i-q)=true\/Apart f g
 |[],i,_,q,g,_,h=>by simp at h
 |g0::gs,i,h,q,g,hq,hg=>by
  simp only[fpOk.inner,Ai,DX]at h;cases q with
  |zero =>
   simp at hg;subst hg;rcases h.1 with h1 | h1
   ·exact .inl h1
   ·exact .inr ⟨qez h1.1.1,qez h1.1.2,qez h1.2⟩
  |succ q =>
   have:=qil h.2 q g (by omega) (by simpa using hg);rwa[show i-1-q=i-(q+1) by omega]at this
theorem qim{before:Array Nat}:∀ {fs:List Fp} {k:Nat},fpOk before k fs=true->fs.length<=k+1->∀(p q:Nat) (f g:Fp),p<q->fs[p]?=some f->fs[q]?=some g->(before.getD (k-p) 0).testBit (k-q)=true\/Apart f g
 |[],k,_,_,p,q,f,g,_,h,_=>by simp at h
 |f0::fs,k,h,hl,p,q,f,g,hpq,hf,hg=>by
  simp only[fpOk,Ai]at h;have hql:=(Ao.1 hg).1;simp only[Aq]at hl hql;obtain⟨q',rfl⟩:∃q',q=q'+1:=⟨q-1,by omega⟩;cases p with
  |zero =>
   simp at hf;subst hf;have:=qil h.1 q' g (by omega) (by simpa using hg);rwa[show k-1-q'=k-(q'+1) by omega]at this
  |succ p =>
   have:=qim h.2 (by omega) p q' f g (by omega) (by simpa using hf) (by simpa using hg);rwa[show k-1-p=k-(p+1) by omega,show k-1-q'=k-(q'+1) by omega]at this
theorem fpOk_tr{before:Array Nat}{tr:Tr}{n:Nat}(hn:tr.length=n)(h:fpOk before (n-1) (tr.map λu=>(u.2,q2d u.1)).reverse=true)(i j:Nat)(u v:List (Key×Ent)×List Key)(hij:i<j)(hi:tr[i]?=some u)(hj:tr[j]?=some v) :
  (before.getD j 0).testBit i=true\/Apart (v.2,q2d v.1) (u.2,q2d u.1):=by
 have hjl:=(Ao.1 hj).1;have hg:∀(m:Nat) (x:List (Key×Ent)×List Key),tr[m]?=some x->((tr.map λu=>(u.2,q2d u.1)).reverse)[n-1-m]?=some (x.2,q2d x.1):=λm x hm=>by
  have hml:=(Ao.1 hm).1;rw[List.getElem?_reverse (by simp;omega)];simp only[Aa,Bq,hn];rw[show n-1-(n-1-m)=m by omega,hm];rfl
 have:=qim h (by simp;omega) (n-1-j) (n-1-i) _ _ (by omega) (hg j v hj) (hg i u hi);rwa[show n-1-(n-1-j)=j by omega,show n-1-(n-1-i)=i by omega]at this
def Topo(ops:Array Oper):Prop:=∀(i:Nat) (o:Oper),ops[i]?=some o->∀e,e∈o.after.toList->Region.binds .any e=true->e.on<i
theorem qin{i:Nat}:∀ {l:List Edge},topoEdges i l=true->∀e,e∈l->Region.binds .any e=true->e.on<i
 |[],_,e,he,_=>by simp at he
 |x::l,h,e,he,hb=>by
  simp only[topoEdges,Ai]at h;rcases Ar.1 he with rfl | he
  ·have:=h.1;rw[hb]at this;simp only[Am,BR]at this;exact Bz this
  ·exact qin h.2 e he hb
theorem qio{nt:Nat}{pins:List Nat}:∀ {l:List Oper} {i:Nat},opsOk nt pins i l=true->∀(j:Nat) (o:Oper),l[j]?=some o->opOk nt pins o=true/\topoEdges (i+j) o.after.toList=true
 |[],i,_,j,o,h=>by simp at h
 |x::l,i,h,j,o,hj=>by
  simp only[opsOk,Ai]at h;cases j with
  |zero=>simp at hj;subst hj;exact⟨h.1.1,h.1.2⟩
  |succ j =>
   have:=qio h.2 j o (by simpa using hj);rwa[show i+1+j=i+(j+1) by omega]at this
def memD(tr:Tr)(M:Mem)(D:Nat->Bool):Nat->Mem
 |0=>M
 |i+1=>if D i=true then((tr[i]?).map (·.1)).getD []++memD tr M D i else memD tr M D i
theorem qco{k:Key}{us:List (Key×Ent)}(h:k ∉ q2d us):Mem.get k us=none:=q66 λe he=>h (BD.2 ⟨(k,e),he,rfl⟩)
theorem qip{k:Key}:∀ {us:List (Key×Ent)},k∈q2d us->∃e,Mem.get k us=some e
 |[],h=>by simp[q2d]at h
 |(k',e)::us,h=>by
  rw[Mem.qj];split
  ·exact⟨e,rfl⟩
  ·rename_i hk
   exact qip (by
    simp only[q2d,AQ,Ar]at h
    exact h.resolve_left hk)
section
variable {E:Env} {call:FuncId->List FV->Res} {X:Cx} {M:Mem} {a:Act} {w:World} {γ:Nat->Gh} {S:Nat->Prop} {us:List (Key×Ent)} {o:Oper}
def FpTr(ops:Array Oper)(tr:Tr):Prop:=∀(i j:Nat) (u v:List (Key×Ent)×List Key),i<j->tr[i]?=some u->tr[j]?=some v->((Region.before ops).getD j 0).testBit i=true\/Apart (v.2,q2d v.1) (u.2,q2d u.1)
def Closed(ops:Array Oper)(D:Nat->Bool):Prop:=∀j,j<ops.size->D j=true->∀i,((Region.before ops).getD j 0).testBit i=true->D i=true
theorem qo0{ops:Array Oper}{tr:Tr}{D:Nat->Bool}(hl:tr.length=ops.size)(hfp:FpTr ops tr)(hc:Closed ops D){i:Nat}{u:List (Key×Ent)×List Key}(hu:tr[i]?=some u)(hD:D i=false)
  (hb:∀m,((Region.before ops).getD i 0).testBit m=true->D m=true):∀k,k∈u.2->Mem.get k (memD tr M D ops.size)=Mem.get k (seqM tr M i):=λk hk=>by
 have hil:i<ops.size:=by rw[<- hl];exact(Ao.1 hu).1
 have s1:∀m,m<=i->Mem.get k (memD tr M D m)=Mem.get k (seqM tr M m):=λm=>by
  induction m with
  |zero=>intro _;rfl
  |succ m ih =>
   intro hm;have hv:tr[m]?=some tr[m]:=Ag (by omega);rw[memD,seqM,hv];simp only[AD,Bg];split
   ·rw[Mem.get_append,Mem.get_append,ih (by omega)]
   ·rename_i hDm;rcases hfp m i _ u (by omega) hv hu with q | q
    ·exact absurd (hb m q) hDm
    ·rw[Mem.get_append,qco (λhk'=>q.rw k hk' hk),CI];exact ih (by omega)
 have s2:∀m,m<=ops.size->i<=m->Mem.get k (memD tr M D m)=Mem.get k (memD tr M D i):=λm=>by
  induction m with
  |zero =>
       intro _ h;have:i=0:=by omega
       subst this;rfl
  |succ m ih =>
   intro hm him;by_cases he:i=m+1
   ·subst he;rfl
   ·have hv:tr[m]?=some tr[m]:=Ag (by omega);rw[memD];split
    ·rename_i hDm;have hne:i≠m:=λe=>by subst e;rw[hD]at hDm;cases hDm
     rcases hfp i m u _ (by omega) hu hv with q | q
     ·have:=hc m (by omega) hDm i q;rw[hD]at this;cases this
     ·rw[hv];simp only[AD,Bg];rw[Mem.get_append,qco (λhk'=>q.wr k hk' hk),CI];exact ih (by omega) (by omega)
    ·exact ih (by omega) (by omega)
 rw[s2 ops.size (Ak _) (by omega),s1 i (Ak _)]
theorem memD_add{ops:Array Oper}{tr:Tr}{D D':Nat->Bool}(hl:tr.length=ops.size)(hfp:FpTr ops tr)(hc:Closed ops D){i:Nat}{u:List (Key×Ent)×List Key}(hu:tr[i]?=some u)(hD:D i=false)
  (hD':∀j,j<ops.size->D' j=(if j=i then true else D j)):MEq (u.1++memD tr M D ops.size) (memD tr M D' ops.size):=by
 have hil:i<ops.size:=by rw[<- hl];exact(Ao.1 hu).1
 have s1:∀m,m<=i->memD tr M D' m=memD tr M D m:=λm=>by
  induction m with
  |zero=>intro _;rfl
  |succ m ih =>
   intro hm;have hne:¬ m=i:=by omega
   have hq:D' m=D m:=by rw[hD' m (by omega),if_neg hne]
   rw[memD,memD,ih (by omega),hq]
 have s2:∀m,m<=ops.size->i<m->MEq (u.1++memD tr M D m) (memD tr M D' m):=λm=>by
  induction m with
  |zero=>intro _ h;omega
  |succ m ih =>
   intro hm him;by_cases he:i=m
   ·subst he;rw[memD,memD,hD' i hil,if_pos rfl,if_pos rfl,if_neg (by rw[hD];simp),s1 i (Ak _),hu];exact λ_=>rfl
   ·have hv:tr[m]?=some tr[m]:=Ag (by omega);rw[memD,memD,hD' m (by omega),if_neg (BO he)];split
    ·rename_i hDm;have ih:=ih (by omega) (by omega);rcases hfp i m u _ (by omega) hu hv with q | q
     ·have:=hc m (by omega) hDm i q;rw[hD]at this;cases this
     ·rw[hv];simp only[AD,Bg];intro k;have ihk:=ih k;rw[Mem.get_append]at ihk;rw[Mem.get_append,Mem.get_append,Mem.get_append,ihk];by_cases hk:k∈q2d tr[m].1
      ·obtain⟨e,hke⟩:=qip hk;rw[qco (us:=u.1) (q.ww k hk),hke];simp
      ·rw[qco hk];simp
    ·exact ih (by omega) (by omega)
 exact s2 ops.size (Ak _) hil
theorem filter_le{p p':Nat->Bool}(hp:∀j,p' j=true->p j=true):∀(l:List Nat),(l.filter p').length<=(l.filter p).length
 |[]=>by simp
 |x::l=>by
  have ih:=filter_le hp l;simp only[List.filter_cons];cases h':p' x with
  |true=>rw[hp x h'];simp;exact ih
  |false=>cases h:p x <;> simp <;> omega
theorem filter_lt{p p':Nat->Bool}(hp:∀j,p' j=true->p j=true){i:Nat}(h:p i=true)(h':p' i=false):∀ {l:List Nat},i∈l->(l.filter p').length<(l.filter p).length
 |[],hm=>by simp at hm
 |x::l,hm=>by
  simp only[List.filter_cons];rcases Ar.1 hm with rfl | hm
  ·rw[h,h'];have:=filter_le hp l;simp;omega
  ·have ih:=filter_lt hp h h' hm;cases q':p' x with
   |true=>rw[hp x q'];simp;omega
   |false=>cases q:p x <;> simp <;> omega
theorem any_sim{ops:Array Oper}{nt:Nat}{pins:List Nat}(hE:q15 E)(hC:q5c E call)(hnt:nt<=X.nt)(hpin:∀d,d ∉ pins->X.pin d=none)(hops:∀(i:Nat) (o:Oper),ops[i]?=some o->opOk nt pins o=true)(htopo:Topo ops){tr:Tr}(hlen:tr.length=ops.size)
  (htr:∀(i:Nat) (o:Oper) (u:List (Key×Ent)×List Key),ops[i]?=some o->tr[i]?=some u->StepOk E call ops o (seqM tr M i) u.1 u.2) (hfp:FpTr ops tr) {Q:Exit->Act->World->Prop}
  (hQ:∀a' w' γ' S',Rel X (seqM tr M ops.size) a' w' γ' S'->Q .normal a' w') :
  ∀(fuel:Nat) (listed:Array Bool) (a:Act) (w:World) (γ:Nat->Gh) (S:Nat->Prop),listed.size=ops.size->Closed ops (λi=>listed.getD i false)->((List.range ops.size).filter λi=>!listed.getD i true).length<=fuel ->
   Rel X (memD tr M (λi=>listed.getD i false) ops.size) a w γ S->wpAny E.P .any ops Q fuel listed a w:=by
 have done:∀(listed:Array Bool) (a:Act) (w:World) (γ:Nat->Gh) (S:Nat->Prop),(∀i,i<ops.size->listed.getD i false=true)->Rel X (memD tr M (λi=>listed.getD i false) ops.size) a w γ S->Q .normal a w:=λlisted a w γ S hall h=>by
  have:∀m,m<=ops.size->memD tr M (λi=>listed.getD i false) m=seqM tr M m:=λm=>by
   induction m with
   |zero=>intro _;rfl
   |succ m ih=>intro hm;rw[memD,seqM,ih (by omega),if_pos (hall m (by omega))]
  rw[this _ (Ak _)]at h;exact hQ a w γ S h
 have get:∀(listed:Array Bool) (i:Nat),listed.size=ops.size->i<ops.size->listed.getD i true=listed.getD i false:=λlisted i hs hi=>by
  rw[Az,Az,Bp (by omega)];rfl
 have stuck:∀(listed:Array Bool),listed.size=ops.size->Region.ready .any ops listed=[]->∀i,i<ops.size->listed.getD i false=true:=λlisted hs hr i=>by
  induction i using Nat.strongRecOn with
  |_ i ih =>
   intro hi;apply BS;intro hn;have hno:listed.getD i false=false:=by simpa using hn
   have:i∈Region.ready .any ops listed:=by
    unfold Region.ready;rw[EO];refine⟨Ct.2 hi,?_⟩;rw[get listed i hs hi,hno];simp only[AV,AB];rw[Bp hi,AD,Bg,FE];intro e he;cases hb:Region.binds .any e with
    |false=>rfl
    |true =>
     have hlt:=htopo i _ (Bp hi) e (by simpa using he) hb;simp only[Am,BR];exact ih e.on hlt (by omega)
   rw[hr]at this;simp at this
 intro fuel
 induction fuel with
 |zero =>
  intro listed a w γ S hs hc hf h;have hall:∀i,i<ops.size->listed.getD i false=true:=λi hi=>by
   apply BS;intro hn;have hno:listed.getD i false=false:=by simpa using hn
   have:i∈(List.range ops.size).filter λi=>!listed.getD i true:=EO.2 ⟨Ct.2 hi,by rw[get listed i hs hi,hno];rfl⟩;rw[Dk.1 (Nat.le_zero.1 hf)]at this;simp at this
  refine⟨?_,done listed a w γ S hall h⟩;apply List.filter_eq_nil_iff.2;intro i hi;have hi':=Ct.1 hi;rw[get listed i hs hi',hall i hi'];simp
 |succ fuel ih =>
  intro listed a w γ S hs hc hf h;refine⟨λhr=>done listed a w γ S (stuck listed hs hr) h,λi hi=>?_⟩;unfold Region.ready at hi;rw[EO]at hi;obtain⟨hi1,hi2⟩:=hi;have hil:=Ct.1 hi1;have ho:ops[i]?=some ops[i]:=Bp hil;rw[ho,AD,Bg,Ai,get listed i hs hil,FE]at hi2;obtain⟨hD,haft⟩:=hi2;have hD':listed.getD i false=false:=by simpa using hD
  have hb:∀m,((Region.before ops).getD i 0).testBit m=true->listed.getD m false=true:=λm hm=>by
   obtain⟨e,e1,e2,e3⟩:=qnz ho hm;have:=haft e (by simpa using e1);rw[e2]at this;simp only[Am,BR]at this;rcases e3 with rfl | e3
   ·exact this
   ·have hlt:=htopo i _ ho e e1 e2;exact hc e.on (by omega) this m e3
  have hu:tr[i]?=some tr[i]:=Ag (by omega);have hstep:=(htr i _ _ ho hu).near (M':=memD tr M (λi=>listed.getD i false) ops.size) (λk hk=>qo0 hlen hfp hc hu hD' hb k hk);have hset:∀j,j<ops.size->(listed.setIfInBounds i true).getD j false=(if j=i then true else listed.getD j false):=λj hj=>by
   rw[Az,Az];by_cases hji:j=i
   ·subst hji;rw[if_pos rfl,DZ (by omega)];rfl
   ·rw[if_neg hji,DD (BO hji)]
  refine qiq hE hC h hnt hpin (hops i _ ho) ho hstep λa' w' γ' S' hR=>?_;have hs':(listed.setIfInBounds i true).size=ops.size:=by simpa using hs
  refine ih _ a' w' γ' S' hs' (λj hj hDj m hm=>?_) ?_ (hR.congr λk=>(memD_add hlen hfp hc hu hD' hset k))
  ·have hm':listed.getD m false=true:=by
    simp only at hDj;rw[hset j hj]at hDj;split at hDj
    ·rename_i e;subst e;exact hb m hm
    ·exact hc j hj hDj m hm
   simp only;rw[Az];by_cases hmi:m=i
   ·subst hmi;rw[DZ (by omega)];rfl
   ·rw[DD (BO hmi),<- Az];exact hm'
  ·have hlt:=filter_lt (p:=λj=>!listed.getD j true) (p':=λj=>!(listed.setIfInBounds i true).getD j true) (i:=i) (λj hj=>by
    have:(listed.setIfInBounds i true).getD j true=false:=by simpa using hj
    rw[Az]at this;by_cases hji:j=i
    ·subst hji;rw[DZ (by omega)]at this;cases this
    ·rw[DD (BO hji),<- Az]at this
     rw[this];rfl) (by rw[get listed i hs hil,hD'];rfl) (by rw[get _ i hs' hil,hset i hil,if_pos rfl];rfl) (Ct.2 hil)
   omega
end
end
section
def toExit:X->Exit
 |.normal=>.normal
 |.exit id=>.exit id
 |.ret=>.ret
def KOk(C:Cx)(R:List FV)(K:Kont)(Q:Exit->Act->World->Prop):Prop:=∀x M a w γ S,Rel C M a w γ S->K x M=some R->Q (toExit x) a w
section
variable {E:Env} {call:FuncId->List FV->Res} {C:Cx} {M:Mem} {a:Act} {w:World} {γ:Nat->Gh} {S:Nat->Prop} {us:List (Key×Ent)} {R:List FV} {an:Ann}
theorem qkb(h:Rel C M a w γ S):∀ {ts:List Nat} {f:List SV->RT},Gets (slotsOf ts f) M us->∃svs,All2 (SRep w S γ (hdOf M)) svs (ts.map λt=>a.tmps.getD t undef)/\Gets (f svs) M us
 |[],f,hg=>⟨[],.nil,hg⟩
 |t::ts,f,hg=>by
  unfold slotsOf at hg;obtain⟨e,he,hg⟩:=q6u hg;split at hg
  ·rename_i v;obtain⟨svs,h1,h2⟩:=qkb h hg;exact⟨v::svs,.cons (h.slot t v he) h1,h2⟩
  ·exact(qh hg).elim
theorem qkc{t:RT}{K:List FV->Res}(h:t.told M K=some R):∃k L,Gets t M [(k,.sv (.fv (.agg L)))]/\K L=some R:=by
 obtain⟨us,l,h1,h2⟩:=run_get h;split at h2
 ·rename_i k L;exact⟨k,L,⟨l,h1⟩,h2⟩
 ·simp at h2
theorem rel_nil(h:Rel C M a w γ S):Rel C [] a w γ S :=
 { keep:=h.keep,head:=λid e he=>by simp[hdOf,Mem.get]at he,own:=λid e he=>by simp[hdOf,Mem.get]at he,inj:=λid e id' e' he=>by simp[hdOf,Mem.get]at he,nt:=h.nt,q2p:=h.q2p,pin:=h.pin,
   slot:=λt s hs=>by simp[Mem.get]at hs }
theorem qgc(h:Rel C M a w γ S){id:Nat}{K:Mem->Res}(hp:prune an id M K=some R):∃M' γ' S',Rel C M' a w γ' S'/\K M'=some R:=by
 unfold prune at hp;split at hp
 ·exact⟨M,γ,S,h,hp⟩
 ·rename_i ts T hT;cases hfl:flatOk 0 T with
  |false=>rw[hfl]at hp;simp at hp
  |true =>
   rw[hfl,Ac]at hp;obtain⟨k,L,hg,hK⟩:=qkc hp;obtain⟨svs,hs,hg1⟩:=qkb h hg;obtain⟨L1,ids,fz,G,hG,hfz,_,hap,hids,_,hg2,hTr⟩:=gets_ext h hs (acc:=[]) (accG:=[]) ⟨λj id h=>by simp at h,λi j id h=>by simp at h⟩ .nil (qw.nil M) hg1;have:=q2w hg2;simp only[Ba,Bv,Ent.sv.injEq,SV.fv.injEq,FV.agg.injEq,Eh]at this;obtain⟨_,rfl⟩:=this;obtain⟨S1,s1,_,hR⟩:=h.q8p hfz;have hT1:=hTr S1 s1 hR;cases hb:bld (namesFrom 1000 (owns T)) 0 T L with
   |none=>rw[memOf,hb]at hK;exact⟨[],γ,S,rel_nil h,hK⟩
   |some p =>
    obtain⟨us,vs,r⟩:=p;rw[memOf,hb]at hK;have hsl:All2 (λt v=>a.tmps.getD t undef=v) ts (ts.map λt=>a.tmps.getD t undef):=by
     clear hK hb hT1 hR hTr hg hg1 hs hT hp
     induction ts with
     |nil=>exact .nil
     |cons t ts ih=>exact .cons rfl ih
    obtain⟨_,hR',_⟩:=qjk hR.keep h.nt h.q2p h.pin hT1 hfl hb (qjh _ _) (.of hR hG hids hap) hsl;exact⟨_,_,_,hR',hK⟩
theorem evR_ok(hE:q15 E)(hC:q5c E call){nt:Nat}{pins:List Nat}(hnt:nt<=C.nt)(hpin:∀d,d ∉ pins->C.pin d=none){id:Nat}{ops:Array Oper}{draw:Bool}{K:Kont}{Q:Exit->Act->World->Prop}
  (hops:opsOk nt pins 0 ops.toList=true) (h:Rel C M a w γ S) (hev:evR E call ops draw K M=some R) (hK:KOk C R K Q):(Code.region id ops draw).wp E.P Q a w:=by
 unfold evR at hev;obtain⟨tr,M',t1,t2,t3,t4⟩:=qkd hev;simp only[AM]at t4;have hlen:tr.length=ops.size:=by simpa using t1
 have hspec:=qio hops;have ho:∀(i:Nat) (o:Oper),ops[i]?=some o->opOk nt pins o=true:=λi o hi=>(hspec i o (by rw[By];exact hi)).1;have htr:∀(i:Nat) (o:Oper) (u:List (Key×Ent)×List Key),ops[i]?=some o->tr[i]?=some u->StepOk E call ops o (seqM tr M i) u.1 u.2:=λi o u h1 h2=>t2 i o u (by rw[By];exact h1) h2;cases hc:(!draw||fpOk (Region.before ops) (ops.size-1) (tr.map λu=>(u.2,q2d u.1)).reverse)with
 |false=>rw[hc]at t4;simp at t4
 |true =>
  rw[hc,Ac]at t4;have t3':MEq (seqM tr M ops.size) M':=by simpa using t3
  have hQ:∀a' w' γ' S',Rel C (seqM tr M ops.size) a' w' γ' S'->Q .normal a' w':=λa' w' γ' S' hR=>hK .normal M' a' w' γ' S' (hR.congr t3') t4;cases draw with
  |false =>
   refine wp_region ?_;rw[List.range_eq_range'];exact qke hE hC hnt hpin ho hlen htr hQ ops.size 0 a w γ S (by omega) h
  |true =>
   simp only[Am,BR]at hc;refine wp_region_any hE.mixed ?_;have htopo:Topo ops:=λi o hi=>by
    have:=(hspec i o (by rw[By];exact hi)).2;rw[AJ]at this;exact qin this
   have h0:∀i,(Array.replicate ops.size false).getD i false=false:=λi=>by
    rw[Az];by_cases hi:i<ops.size
    ·rw[FK,if_pos hi];rfl
    ·rw[FK,if_neg hi];rfl
   refine any_sim hE hC hnt hpin ho htopo hlen htr (λi j u v=>fpOk_tr hlen hc i j u v) hQ ops.size _ a _ γ S (by simp) (λj _ hj=>by simp only[h0]at hj;cases hj) ?_ ?_
   ·exact AZ (FL _ _) (by simp)
   ·have:∀m,memD tr M (λi=>(Array.replicate ops.size false).getD i false) m=M:=λm=>by
     induction m with
     |zero=>rfl
     |succ m ih=>rw[memD,if_neg (by rw[h0];simp),ih]
    rw[this];exact h.drew (w.drawn+1)
theorem kSeq_ok{K:Kont}{Q:Exit->Act->World->Prop}{g:Mem->Res}{next:Act->World->Prop}(hg:∀M a w γ S,Rel C M a w γ S->g M=some R->next a w)(hK:KOk C R K Q):KOk C R (kSeq g K) (Exit.then next Q):=λx M a w γ S h hk=>by
 cases x with
 |normal=>exact hg M a w γ S h hk
 |exit id=>exact hK (.exit id) M a w γ S h hk
 |ret=>exact hK .ret M a w γ S h hk
theorem evC_ok(hE:q15 E)(hC:q5c E call){nt:Nat}{pins:List Nat}(hnt:nt<=C.nt)(hpin:∀d,d ∉ pins->C.pin d=none)(n:Nat) :
  ∀(c:Code) {M:Mem} {a:Act} {w:World} {γ:Nat->Gh} {S:Nat->Prop} {K:Kont} {Q:Exit->Act->World->Prop},codeOk nt pins c=true->Rel C M a w γ S->evC E call an n c K M=some R->KOk C R K Q->c.wp E.P Q a w:=by
 intro c
 induction c with
 |skip=>intro M a w γ S K Q _ h hev hK;exact wp_skip (hK .normal M a w γ S h hev)
 |label l=>intro M a w γ S K Q _ h hev hK;exact wp_label (hK .normal M a w γ S h hev)
 |ret=>intro M a w γ S K Q _ h hev hK;exact wp_ret (hK .ret M a w γ S h hev)
 |exit id=>intro M a w γ S K Q _ h hev hK;exact wp_exit (hK (.exit id) M a w γ S h hev)
 |region id ops draw =>
  intro M a w γ S K Q hc h hev hK;obtain⟨M',γ',S',h',hev'⟩:=qgc h hev;exact evR_ok hE hC hnt hpin hc h' hev' hK
 |seq x y ihx ihy =>
  intro M a w γ S K Q hc h hev hK;simp only[codeOk,Ai]at hc;refine wp_seq (ihx hc.1 h hev (kSeq_ok (λM a w γ S h hev=>ihy hc.2 h hev hK) hK))
 |cond x p q ihp ihq =>
  intro M a w γ S K Q hc h hev hK;simp only[codeOk,Ai]at hc;simp only[evC]at hev;split at hev
  ·rename_i t;split at hev
   ·rename_i b hb;have hv:a.eval (.tmp t)=.bool b:=(h.slot t _ hb).q49;cases b with
    |true=>exact wp_cond_true hv (ihp hc.1 h hev hK)
    |false=>exact wp_cond_false hv (ihq hc.2 h hev hK)
   ·simp at hev
  ·exact wp_cond_true rfl (ihp hc.1 h hev hK)
  ·exact wp_cond_false rfl (ihq hc.2 h hev hK)
  ·simp at hev
 |block id x ih =>
  intro M a w γ S K Q hc h hev hK;refine wp_block (ih hc h hev λx M a w γ S h hk=>?_);cases x with
  |normal=>exact hK .normal M a w γ S h hk
  |ret=>exact hK .ret M a w γ S h hk
  |exit j =>
   simp only[kBlock]at hk;simp only[toExit,Exit.inBlock];cases hb:Nat.beq j id with
   |true =>
    rw[hb]at hk;rw[if_pos (Aw hb)];exact hK .normal M a w γ S h hk
   |false =>
    rw[hb]at hk;rw[if_neg (Nat.ne_of_beq_eq_false hb)];exact hK (.exit j) M a w γ S h hk
 |scope x ih =>
  intro M a w γ S K Q hc h hev hK;refine wp_scope_straight (ih hc h hev λx M a w γ S h hk=>?_);cases x with
  |normal=>exact hK .normal M a w γ S h hk
  |ret=>exact hK .ret M a w γ S h hk
  |exit j=>exact hK (.exit j) M a w γ S h hk
 |loop x ih =>
  intro M a w γ S K Q hc h hev hK;simp only[evC]at hev;obtain⟨M',γ',S',h',hev'⟩:=qgc h hev;have key:∀(m:Nat) {M:Mem} {a:Act} {w:World} {γ:Nat->Gh} {S:Nat->Prop},Rel C M a w γ S->evLoop (q4h x) (λK' M'=>evC E call an n x K' M') K (prune an (q4h x)) m M=some R->Code.rounds E.P x Q m a w:=by
   intro m
   induction m with
   |zero=>intro M a w γ S h hev;simp[evLoop]at hev
   |succ m ihm =>
    intro M a w γ S h hev;simp only[evLoop]at hev;rw[rounds_succ];refine ih hc h hev (kSeq_ok (λM a w γ S h hev=>?_) hK);obtain⟨M',γ',S',h',hev'⟩:=qgc h hev;exact ihm h' hev'
  exact wp_loop_rounds n (key n h' hev')
 |_=>intro M a w γ S K Q _ h hev hK;simp[evC]at hev
end
end
section
def SV.isDead:SV->Bool
 |.dead=>true
 |_=>false
theorem qls:∀ {ps:List SV} {j k:Nat} {s:SV},ps[k]?=some s->s.isDead=false->j+k∈q83 j ps
 |[],j,k,s,h,_=>by simp at h
 |p::ps,j,k,s,h,hd=>by
  cases k with
  |zero=>simp at h;subst h;cases p <;> first | (simp[SV.isDead]at hd;done) | simp[q83]
  |succ k =>
   have:=qls (j:=j+1) (by simpa using h) hd;rw[show j+1+k=j+(k+1) by omega]at this;cases p <;> simp only[q83] <;> first | exact this | exact AA _ this
def ResRd(P:Program)(w:World)(tmps:Array Value)(r:ResultVar)(v:Value):Prop :=
 (match r with
   |.tmp t=>pure (tmps.getD t undef)
   |.cell a t=>do loadVar t (<- asAddr (tmps.getD a undef)):Sem Value).run P w=.ok v w
theorem qlt{P:Program}{w:World}(tmps:Array Value):∀(l:List ResultVar) (Vs:List Value),All2 (ResRd P w tmps) l Vs ->
  (l.mapM (λ(r:ResultVar)=>(match r with
   |.tmp t=>pure (tmps.getD t undef)
   |.cell a t=>do loadVar t (<- asAddr (tmps.getD a undef)):Sem Value))).run P w=.ok Vs w
 |_,_,.nil=>by simp
 |_,_,.cons (xs:=l) (ys:=Vs) h t=>by
  have ih:=qlt (P:=P) (w:=w) tmps l Vs t;unfold ResRd at h;rw[EA];simp only[Sem.run_bind,Sem.run_pure,Result.andThen_ok,ih,h]
section
variable {E:Env} {call:FuncId->List FV->Res} {C:Cx} {M:Mem} {a:Act} {w:World} {γ:Nat->Gh} {S:Nat->Prop} {us:List (Key×Ent)} {R:List FV} {an:Ann}
theorem qlu(h:Rel C M a w γ S):∀ {ps:List SV} {Vs:List Value} {j:Nat} {f:List SV->RT},ps.length=Vs.length->(∀(k:Nat) (s:SV) (v:Value),ps[k]?=some s->s.isDead=false->Vs[k]?=some v->a.tmps.getD (j+k) undef=v)->Gets (rdPins j ps f) M us ->
  ∃qs,All2 (SRep w S γ (hdOf M)) qs Vs/\Gets (f qs) M us
 |[],[],j,f,_,_,hg=>⟨[],.nil,hg⟩
 |[],_::_,_,_,hl,_,_=>by simp at hl
 |_::_,[],_,_,hl,_,_=>by simp at hl
 |p::ps,v::Vs,j,f,hl,hp,hg=>by
  have rest:∀ {f:List SV->RT},Gets (rdPins (j+1) ps f) M us->∃qs,All2 (SRep w S γ (hdOf M)) qs Vs/\Gets (f qs) M us:=λhg =>
   qlu h (by simpa using hl) (λk s v h1 h2 h3=>by
    rw[show j+1+k=j+(k+1) by omega]
    exact hp (k+1) s v (by simpa using h1) h2 (by simpa using h3)) hg
  unfold rdPins at hg;split at hg
  ·obtain⟨qs,h1,h2⟩:=rest hg;exact⟨.dead::qs,.cons .dead h1,h2⟩
  ·rename_i hnd;obtain⟨e,he,hg⟩:=q6u hg;split at hg
   ·rename_i s;obtain⟨qs,h1,h2⟩:=rest hg;have hd:p.isDead=false:=by cases p <;> first | rfl | exact absurd rfl (hnd)
    have:=hp 0 p v rfl hd rfl;rw[Ay]at this;exact⟨s::qs,.cons (by rw[<- this];exact h.slot j s he) h1,h2⟩
   ·exact(qh hg).elim
theorem qhh(hE:q15 E)(h:Rel C M a w γ S):∀ {l:List ResultVar} {f:List SV->RT},Gets (resOf E l f) M us ->
  ∃ss Vs,All2 (SRep w S γ (hdOf M)) ss Vs/\All2 (ResRd E.P w a.tmps) l Vs/\Gets (f ss) M us
 |[],f,hg=>⟨[],[],.nil,.nil,hg⟩
 |.tmp t::l,f,hg=>by
  unfold resOf at hg;obtain⟨e,he,hg⟩:=q6u hg;split at hg
  ·rename_i s;obtain⟨ss,Vs,h1,h2,h3⟩:=qhh hE h hg;exact⟨s::ss,a.tmps.getD t undef::Vs,.cons (h.slot t s he) h1,.cons (by simp[ResRd]) h2,h3⟩
  ·exact(qh hg).elim
 |.cell c t::l,f,hg=>by
  unfold resOf at hg;obtain⟨e,he,hg⟩:=q6u hg;split at hg
  ·rename_i s;obtain⟨ti,inf,d,z,hT,hg1⟩:=q3p hE hg;obtain⟨b,p,s',v,e1,e2,e3,hg2⟩:=qlv hT h (h.slot c s he) hg1;obtain⟨ss,Vs,h1,h2,h3⟩:=qhh hE h hg2;refine⟨s'::ss,v::Vs,.cons e3 h1,.cons ?_ h2,h3⟩;simp[ResRd,e1,asAddr,e2]
  ·exact(qh hg).elim
theorem qtp{P:Program}{w:World}{fn:Func}{tmps:Array Value}{Vs:List Value}(h:All2 (ResRd P w tmps) fn.results.toList Vs):(results fn tmps).run P w=.ok (resV Vs) w:=by
 have:=qlt (P:=P) (w:=w) tmps _ _ h;unfold results;rw[Array.mapM_eq_mapM_toList];simp only[Sem.run_bind,Sem.run_map,Sem.run_pure];refine(congrArg (λ(r:Result (List Value))=>(r.andThen λa w'=>Result.ok a.toArray w').andThen λa w'=>Result.ok (if h:a.size=1 then a[0]else Value.tuple a) w') this).trans ?_;unfold resV
 match Vs with
 |[]=>rfl
 |[v]=>rfl
 |v::u::r=>rfl
theorem keep_cx{X Y:Cx}(h0:X.w0=Y.w0)(h1:X.S0=Y.S0)(h2:X.W0=Y.W0)(h:Keep X w S):Keep Y w S:=by
 obtain⟨a,b,c,d,e,f,g,i,t1,t2⟩:=h;rw[h0]at a b c d e i t1;rw[h1]at g i t1 t2;rw[h2]at b i t2;exact⟨a,b,c,d,e,f,g,i,t1,t2⟩
theorem gok_cx{X Y:Cx}(h0:X.w0=Y.w0)(h2:X.W0=Y.W0){G:GA}(h:GOk X w S G):GOk Y w S G:=by
 obtain⟨a,b⟩:=h;rw[h0,h2]at a;exact⟨a,b⟩
theorem bld_len{nm:List Nat}{T:List Tok}{V:List Value}{L:List FV}{G:GA}{svs:List SV}{r:List FV}(hT:TRep w S T V L [] G)(hfl:flatOk 0 T=true)(hb:bld nm 0 T L=some (us,svs,r))(hn:NInj nm):svs.length=V.length:=by
 obtain⟨b1,b2⟩:=bld_keys hn hb;obtain⟨_,k2,_⟩:=q7n (M':=us) (γ':=ghAt nm G) hT hb b2 (qbe hn) (λi g q k h=>by simp at h) hfl;exact k2.len
theorem evFb_ok(hE:q15 E)(hC:q5c E call){n:Nat}{f:FuncId}{i:FnI}{L L':List FV}(hi:E.fn f=some i)(hev:evFb E call n f L=some L'):Enters E.P (vb f)/\q31 E.P (vb f) i L L':=by
 unfold evFb at hev;rw[hi]at hev;split at hev
 ·rename_i i' fn hi' hfc;cases hi';obtain⟨hf,hname⟩:=hE.fc f fn hfc;split at hev
  ·rename_i c us svs hbody hbld;cases hck:(flatOk 0 i.tin&&codeOk fn.ntmps (q83 0 (svs.map kept)) c)with
   |false=>rw[hck]at hev;simp at hev
   |true =>
    rw[hck,Ac]at hev;simp only[Ai]at hck;refine⟨⟨fn,hf,by rw[hbody];rfl,hname⟩,λw S V G hS htab hT hgo=>?_⟩;have hnm:=qjh 1000 (owns i.tin);have hlen:svs.length=V.length:=bld_len hT hck.1 hbld hnm;refine calls_of_wp hf hbody ?_;generalize ha:({ tmps:=V.toArray++Array.replicate (fn.ntmps-V.toArray.size) undef,defers:=[] }:Act)=a0;have hsize:fn.ntmps<=a0.tmps.size:=by subst ha;simp;omega
    have hget:∀(t:Nat) (v:Value),V[t]?=some v->a0.tmps.getD t undef=v:=λt v hv=>by
     subst ha;have hlt:=(Ao.1 hv).1;rw[Az,Fd (by simpa using hlt),Dy,hv];rfl
    let pin:Nat->Option Value:=λt=>if t∈q83 0 (svs.map kept)then some (a0.tmps.getD t undef)else none
    let C:Cx:=⟨w,S,q2b G,a0.tmps.size,pin⟩
    have hkeep:Keep C w S:=⟨Ak _,λ_ _ _=>rfl,rfl,rfl,rfl,hS,λ_ h=>h,λ_ h=>.inl h,htab,λb ⟨i,g,sh,q1,q2,q3⟩=>by subst q3;exact(hgo.own i g sh q1 q2).2.1⟩;have hpinv:∀t v,C.pin t=some v->a0.tmps.getD t undef=v:=λt v h=>by
     simp only[C,pin]at h;split at h
     ·cases h;rfl
     ·cases h
    have hsl:All2 (λt v=>a0.tmps.getD t undef=v) (namesFrom 0 svs.length) V:=.of (by
      have:∀(n b:Nat),(namesFrom b n).length=n:=λn=>by
       induction n with
       |zero=>intro b;rfl
       |succ n ih=>intro b;simp[namesFrom,ih]
      rw[this,hlen]) λj t v h1 h2=>by
     have:=qaf h1;rw[AJ]at this;subst this;exact hget t v h2
    obtain⟨_,hR,_⟩:=qjk (X:=C) hkeep rfl (by subst ha;rfl) hpinv hT hck.1 hbld hnm (gok_cx (X:=⟨w,S,q2b G,0,λ_=>none⟩) (Y:=C) rfl rfl hgo) hsl;refine evC_ok hE hC (nt:=fn.ntmps) (pins:=q83 0 (svs.map kept)) hsize (λd hd=>by simp only[C,pin];rw[if_neg hd]) n c hck.2 hR hev ?_;intro x M a w' γ S' h hk;have fin:(rdPins 0 (svs.map kept) λqs=>resOf E fn.results.toList λrs=>ext i.tout (qs++rs) [] [] λL _ _=>tell L).told M some=some L' ->
      a.defers=[]/\∃v,(results fn a.tmps).run E.P w'=.ok v w'/\∃S'' fin' Rv,Ending.returned v=.returned (resV Rv)/\TRep w' S'' i.tout (V++Rv) L' [] fin'/\Keep ⟨w,S,q2b G,0,λ_=>none⟩ w' S''/\GOk ⟨w,S,q2b G,0,λ_=>none⟩ w' S'' fin':=by
     intro hk;obtain⟨k,L1,hg,hL⟩:=qkc hk;cases hL
     obtain⟨qs,hq,hg1⟩:=qlu h (Vs:=V) (by simpa using hlen) (λk s v h1 h2 h3=>by
      have hm:=qls (j:=0) h1 h2;rw[h.pin (0+k) (a0.tmps.getD (0+k) undef) (by simp only[C,pin];rw[if_pos hm]),AJ]
      exact hget k v h3) hg
     obtain⟨ss,Rv,hs,hres,hg2⟩:=qhh hE h hg1;obtain⟨L1,ids,fz,G',hG,hfz,_,hap,hids,_,hg3,hTr⟩:=gets_ext h (hq.app hs) (acc:=[]) (accG:=[]) ⟨λj id h=>by simp at h,λi j id h=>by simp at h⟩ .nil (qw.nil M) hg2;have:=q2w hg3;simp only[Ba,Bv,Ent.sv.injEq,SV.fv.injEq,FV.agg.injEq,Eh]at this;obtain⟨_,rfl⟩:=this;obtain⟨S1,s1,_,hR1⟩:=h.q8p hfz;have hT1:=hTr S1 s1 hR1;refine⟨h.q2p,_,qtp hres,S1,G',Rv,rfl,hT1,keep_cx (X:=C) (Y:=⟨w,S,q2b G,0,λ_=>none⟩) rfl rfl rfl hR1.keep,gok_cx (X:=C) (Y:=⟨w,S,q2b G,0,λ_=>none⟩) rfl rfl (.of hR1 hG hids hap)⟩
    cases x with
    |normal=>exact fin hk
    |ret=>exact fin hk
    |exit id=>simp[kRet]at hk
  ·simp at hev
 ·simp at hev
def q6k(E:Env):Prop:=∀f g i L L',E.ext f=some g->E.fn f=some i->g L=some L'->Enters E.P (vb f)/\q31 E.P (vb f) i L L'
theorem evF_ok(hE:q15 E)(hX:q6k E):∀n,q5c E (evF E n)
 |0=>λf i L L' _ h=>by simp[evF]at h
 |n+1=>λf i L L' hi h=>by
  simp only[evF]at h;split at h
  ·rename_i g hg;exact hX f g i L L' hg hi h
  ·exact evFb_ok hE (evF_ok hE hX n) hi h
end
end
end Rf
