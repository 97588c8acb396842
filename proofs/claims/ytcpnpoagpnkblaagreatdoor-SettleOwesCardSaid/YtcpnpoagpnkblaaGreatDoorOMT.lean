/- Texts of this work put together, their blanks and comments taken out: Thw, Res1, Pv, Bal, Lnk, Lup. -/
import Derived.Test.YtcpnpoagpnkblaaGreatDoorOME
import Derived.Laws.Sem
import Derived.Test.YtcpnpoagpnkblaaGreatDoorOMG
import Derived.Test.YtcpnpoagpnkblaaGreatDoorOMR
import Derived.Test.YtcpnpoagpnkblaaGreatDoorOMI
set_option linter.unusedVariables false
set_option linter.unusedSimpArgs false
namespace Rf
open Go
section
def flatTok:Tok->Bool
 |.int _ | .bool | .str | .lst _ | .own _=>true
 |_=>false
theorem FRep.vrep{w:World}{S S':Nat->Prop}{g:Gh}{sz:Nat}{xs:List FV}(h:VRep w S g sz xs)(hS:∀b,S b->S' b)(hg:g.nil=false->S' g.blk):FRep w S' (.list sz xs) (.slice g.base xs.length g.cap):=by
 obtain⟨h1,h2⟩:=h;by_cases hn:g.nil=true
 ·rw[if_pos hn]at h2;obtain⟨rfl,h3⟩:=h2;exact FRep.q38.2 ⟨_,_,0,0,rfl,h1,λh=>absurd rfl h,by simp,λi j x c h=>by simp at h⟩
 ·rw[if_neg hn]at h2;obtain⟨vals,e,h3,h4,h5⟩:=h2;have hn':g.nil=false:=by simpa using hn
  exact FRep.q38.2 ⟨_,_,g.blk,g.off,rfl,h1,λ_=>⟨by simp[Gh.base,hn'],hg hn'⟩,h5.mono (λ_ _=>rfl) hS rfl⟩
theorem qem{w:World}{S S':Nat->Prop}(hS:∀b,S b->S' b):∀ {T:List Tok} {V:List Value} {L:List FV} {acc G:GA},T.all flatTok=true->TRep w S T V L acc G->(∀b,q2b G b->S' b) ->
  All2 (FRep w S') L V/\L.length=T.length/\∀c,c∈L->c.flat=true
 |[],V,L,acc,G,_,h,_=>by
  obtain⟨rfl,rfl,rfl⟩:=h;exact⟨.nil,rfl,λc hc=>by simp at hc⟩
 |t::T,V,L,acc,G,ht,h,hG=>by
  simp only[Bk,Ai]at ht;obtain⟨h0,ht⟩:=ht;have leaf:(∃v V' x L',V=v::V'/\L=x::L'/\leafT t x/\FRep w S x v/\TRep w S T V' L' acc G)->All2 (FRep w S') L V/\L.length=(t::T).length/\∀c,c∈L->c.flat=true:=by
   rintro⟨v,V',x,L',rfl,rfl,h3,h4,h5⟩;obtain⟨k1,k2,k3⟩:=qem hS ht h5 hG;refine⟨.cons (h4.mono (λ_ _=>rfl) hS) k1,by simp[k2],λc hc=>?_⟩;rcases Ar.1 hc with rfl | hc
   ·exact qa0 h3
   ·exact k3 c hc
  cases t with
  |int k=>exact leaf h
  |bool=>exact leaf h
  |str=>exact leaf h
  |lst sz=>exact leaf h
  |own sz =>
   obtain⟨g,xs,V',L',rfl,rfl,hv,hT⟩:=h;obtain⟨k1,k2,k3⟩:=qem hS ht hT hG;obtain⟨r,hr⟩:=hT.pre;have hat:G[acc.length]?=some (g,(some (sz,xs.length),none)):=by
    rw[hr,Ap,CT (Ak _)];simp
   refine⟨.cons (FRep.vrep hv hS λhn=>hG _ ⟨acc.length,g,_,hat,hn,rfl⟩) k1,by simp[k2],λc hc=>?_⟩
   ·rcases Ar.1 hc with rfl | hc
    ·rfl
    ·exact k3 c hc
  |_=>simp[flatTok]at h0
theorem VRep.keep{w w':World}{S:Nat->Prop}{g:Gh}{sz:Nat}{xs:List FV}(h:VRep w S g sz xs)(hw:∀b,b<w.heap.size->w'.heap[b]?=w.heap[b]?)(hS:∀b,S b->b<w.heap.size):VRep w' S g sz xs:=by
 obtain⟨h1,h2⟩:=h;refine⟨h1,?_⟩;split
 ·rename_i hn;rw[if_pos hn]at h2;exact h2
 ·rename_i hn;rw[if_neg hn]at h2;obtain⟨vals,e,h3,h4,h5⟩:=h2;have hlt:g.blk<w.heap.size:=by
   rcases Dn g.blk w.heap.size with q | q
   ·exact q
   ·rw[Dj q]at h3;cases h3
  exact⟨vals,e,by rw[hw _ hlt];exact h3,h4,h5.mono (λb hb=>hw b (hS b hb)) (λ_ h=>h) (hw _ hlt)⟩
theorem qb0{w w':World}{S:Nat->Prop}(hw:∀b,b<w.heap.size->w'.heap[b]?=w.heap[b]?)(hS:∀b,S b->b<w.heap.size){U:List Tok}{R:List Value}{L2:List FV} :
  ∀ {T:List Tok} {V:List Value} {L:List FV} {acc G:GA},T.all flatTok=true->TRep w S T V L acc G->TRep w' S U R L2 G G->TRep w' S (T++U) (V++R) (L++L2) acc G
 |[],V,L,acc,G,_,h,hU=>by
  obtain⟨rfl,rfl,rfl⟩:=h;exact hU
 |t::T,V,L,acc,G,ht,h,hU=>by
  simp only[Bk,Ai]at ht;obtain⟨h0,ht⟩:=ht;cases t with
  |int k=>obtain⟨v,V',x,L',rfl,rfl,h3,h4,h5⟩:=h;exact⟨v,_,x,_,rfl,rfl,h3,h4.mono (λb hb=>hw b (hS b hb)) (λ_ h=>h),qb0 hw hS ht h5 hU⟩
  |bool=>obtain⟨v,V',x,L',rfl,rfl,h3,h4,h5⟩:=h;exact⟨v,_,x,_,rfl,rfl,h3,h4.mono (λb hb=>hw b (hS b hb)) (λ_ h=>h),qb0 hw hS ht h5 hU⟩
  |str=>obtain⟨v,V',x,L',rfl,rfl,h3,h4,h5⟩:=h;exact⟨v,_,x,_,rfl,rfl,h3,h4.mono (λb hb=>hw b (hS b hb)) (λ_ h=>h),qb0 hw hS ht h5 hU⟩
  |lst sz=>obtain⟨v,V',x,L',rfl,rfl,h3,h4,h5⟩:=h;exact⟨v,_,x,_,rfl,rfl,h3,h4.mono (λb hb=>hw b (hS b hb)) (λ_ h=>h),qb0 hw hS ht h5 hU⟩
  |own sz =>
   obtain⟨g,xs,V',L',rfl,rfl,hv,hT⟩:=h;exact⟨g,xs,_,_,rfl,rfl,hv.keep hw hS,qb0 hw hS ht hT hU⟩
  |_=>simp[flatTok]at h0
theorem thaw{P:Program}{f:FuncId}{k:Nat}{T:List Tok}{i j:FnI}(hi1:i.tin=[.fpt k])(hi2:i.tout=[.skip,.bool])(hj1:j.tin=.obj k::T)(hj2:j.tout=.obj k::(T++[.bool]))(hT:T.all flatTok=true)(hk:T.length=k)
  {L:List FV} {b:Bool} (h:q31 P f i [.ref k (.agg L)] [.bool b]):q31 P f j L (L++[.bool b]):=by
 intro w S V G hS htab hR hgo;rw[hj1]at hR;obtain⟨g,vals,e,V',rfl,hn,hb,hsz,hT0⟩:=hR;have hlenV:∀ {T:List Tok} {V:List Value} {L:List FV} {acc G:GA},T.all flatTok=true->TRep w S T V L acc G->V.length=T.length:=by
  intro T V L acc G ht h;obtain⟨k1,k2,_⟩:=qem (S':=λ_=>True) (λ_ _=>trivial) ht h (λ_ _=>trivial);rw[<- k1.len,k2]
 have hV':V'=[]:=by
  have:=hlenV hT hT0;simp at this;exact BF (by omega)
 subst hV';rw[AM]at hT0;have hblk:g.blk<w.heap.size:=by
  rcases Dn g.blk w.heap.size with q | q
  ·exact q
  ·rw[Dj q]at hb;cases hb
 have hgiv:∀c,q2b G c->c<w.heap.size:=λc ⟨i,g',sh,q1,q2,q3⟩=>by
  subst q3;exact(hgo.own i g' sh q1 q2).1
 have hg0:q2b G g.blk:=by
  obtain⟨r,hr⟩:=hT0.pre;have hat:G[0]?=some (g,(none,some (.n k))):=by rw[hr];rfl
  exact⟨0,g,_,hat,hn,rfl⟩
 let S1:Nat->Prop:=λc=>S c\/q2b G c
 have hS1:∀c,S1 c->c<w.heap.size:=λc hc=>hc.elim (hS c) (hgiv c);obtain⟨k1,k2,k3⟩:=qem (S':=S1) (λc h=>.inl h) hT hT0 (λc h=>.inr h);have hrep:FRep w S1 (.ref k (.agg L)) (.pointer (some ⟨g.blk,0,none⟩)):=by
  refine FRep.qg7.2 ⟨g.blk,0,rfl,.inr hg0,λy hy=>?_,λi j y c h1 h2=>?_⟩
  ·rw[BN.1 hy];exact⟨by simp[FV.cells,k2,hk],k3⟩
  ·cases i with
   |succ i=>simp at h1
   |zero =>
    simp only[Aj,AH]at h1;subst h1;obtain⟨v,q1,q2⟩:=k1.get j c h2;refine⟨v,?_,q2⟩;rw[q5l hb,show 0+(0*k+j)=j by omega,<- By];exact q1
 have htab1:Tabs w S1:=λg' cs hg'=>by
  obtain⟨q1,q2⟩:=htab g' cs hg';exact⟨.inl q1,q2⟩
 have:=h w S1 [.pointer (some ⟨g.blk,0,none⟩)] [] hS1 htab1 (by rw[hi1];exact⟨_,[],_,[],rfl,rfl,rfl,hrep,rfl,rfl,rfl⟩) ⟨λi g sh h=>by simp at h,λi j g g' sh sh' h=>by simp at h⟩;refine this.mono ?_;rintro e' w' ⟨S',fin',R,rfl,hU,hkp,_⟩;rw[hi2]at hU;obtain⟨v,V',hv1,hU⟩:=hU;simp only[BM,Ba]at hv1;obtain⟨_,rfl⟩:=hv1;obtain⟨v2,V2,x,L',rfl,hx,hl,hr,hU2⟩:=hU;cases hx;obtain⟨rfl,_,_⟩:=hU2;cases hr;have hw:∀c,c<w.heap.size->w'.heap[c]?=w.heap[c]?:=λc hc=>hkp.block c hc λ⟨i,g,sh,q,_⟩=>by simp at q
 refine⟨S,G,[.bool b],rfl,?_,⟨hkp.size,λc hc _=>hw c hc,hkp.os,hkp.tape,hkp.output,λc hc=>AP (hS c hc) hkp.size,λ_ h=>h,λ_ h=>.inl h,htab,λc ⟨i,g,sh,q1,q2,q3⟩=>by subst q3;exact(hgo.own i g sh q1 q2).2.1⟩,?_⟩
 ·rw[hj2];refine⟨g,vals,e,[.bool b],rfl,hn,by rw[hw _ hblk];exact hb,hsz,?_⟩;exact qb0 hw hS hT hT0 ⟨_,[],_,[],rfl,rfl,trivial,.bool b,rfl,rfl,rfl⟩
 ·exact⟨λi g sh h1 h2=>let q:=hgo.own i g sh h1 h2;⟨AP q.1 hkp.size,q.2.1,.inl ⟨i,g,sh,h1,h2,rfl⟩⟩,hgo.inj⟩
end
section
structure BlkV where
 who:ByteArray
 seq:Int
 zone:Int
 buy:Bool
 qe:Int
 qty:List Int
 parent:Int
 group:Int
 deriving Inhabited
def q47(a b:BlkV):Bool:=decide (b.who=a.who)&&(b.seq==a.parent)
def pW(bs:List BlkV):Nat->Nat->Bool
 |0,_=>false
 |k+1,i=>match bs[i]? with
  |none=>false
  |some b=>if b.parent<=0 then true else match bs.findIdx? (q47 b)with
   |none=>false
   |some j=>if j=i then false else pW bs k j
def rN(bs:List BlkV)(i:Nat)(b:BlkV):Option Nat:=(List.range bs.length).find? λj=>j !=i&&((bs[j]?).map (q47 b)).getD false
def rW(bs:List BlkV):Nat->Nat->Bool
 |0,_=>false
 |k+1,i=>match bs[i]? with
  |none=>false
  |some b=>if b.parent<=0 then true else match rN bs i b with
   |none=>false
   |some j=>rW bs k j
def Uniq(bs:List BlkV):Prop:=∀(i j:Nat) (a b:BlkV),bs[i]?=some a->bs[j]?=some b->a.who=b.who->a.seq=b.seq->i=j
theorem qay{a b:BlkV}:q47 a b=true↔b.who=a.who/\b.seq=a.parent:=by
 simp[q47]
theorem qec{bs:List BlkV}{i j:Nat}{b:BlkV}(h:rN bs i b=some j):j≠i/\∃c,bs[j]?=some c/\q47 b c=true:=by
 have h1:=List.find?_some h;simp only[Ai,CG,ne_eq]at h1;refine⟨h1.1,?_⟩;cases hc:bs[j]? with
 |none=>rw[hc]at h1;simp at h1
 |some c=>rw[hc]at h1;exact⟨c,rfl,by simpa using h1.2⟩
theorem rN_none{bs:List BlkV}{i:Nat}{b:BlkV}(h:rN bs i b=none){j:Nat}{c:BlkV}(hj:bs[j]?=some c)(hne:j≠i):q47 b c=false:=by
 have h1:=List.find?_eq_none.1 h j (by rw[Ct];exact(Ao.1 hj).1);rw[hj]at h1;simpa[hne]using h1
theorem qlk{bs:List BlkV}(hu:Uniq bs):∀k i,pW bs k i=rW bs k i
 |0,_=>rfl
 |k+1,i=>by
  unfold pW rW;cases hb:bs[i]? with
  |none=>rfl
  |some b =>
   simp only;by_cases hp:b.parent<=0
   ·rw[if_pos hp,if_pos hp]
   rw[if_neg hp,if_neg hp];cases hf:bs.findIdx? (q47 b)with
   |none =>
    rw[Fr]at hf;cases hr:rN bs i b with
    |none=>rfl
    |some j =>
     obtain⟨_,c,hc,hpc⟩:=qec hr;rw[hf c (AS hc)]at hpc;cases hpc
   |some j =>
    rw[Ew]at hf;obtain⟨hjl,hj,_⟩:=hf;have hjs:bs[j]?=some bs[j]:=Ag hjl;obtain⟨q1,q2⟩:=qay.1 hj;by_cases hji:j=i
    ·subst hji;rw[hjs]at hb;cases hb;simp only[if_pos];cases hr:rN bs j bs[j]with
     |none=>rfl
     |some m =>
      obtain⟨hne,c,hc,hpc⟩:=qec hr;obtain⟨r1,r2⟩:=qay.1 hpc;exact absurd (hu m j c bs[j] hc hjs r1 (r2.trans q2.symm)) hne
    ·simp only[if_neg hji];cases hr:rN bs i b with
     |none =>
      have:=rN_none hr hjs hji;rw[hj]at this;cases this
     |some m =>
      obtain⟨hne,c,hc,hpc⟩:=qec hr;obtain⟨r1,r2⟩:=qay.1 hpc;have:m=j:=hu m j c bs[j] hc hjs (r1.trans q1.symm) (r2.trans q2.symm);subst this;exact qlk hu k m
def nmLt(a:ByteArray)(m:Int)(b:ByteArray)(n:Int):Prop:=a.toList<b.toList\/a=b/\m<n
theorem nmLt_tr{a b c:ByteArray}{m n k:Int}(h:nmLt a m b n)(h':nmLt b n c k):nmLt a m c k:=by
 rcases h with h | ⟨rfl,h⟩
 ·rcases h' with h' | ⟨rfl,h'⟩
  ·exact Or.inl (Ff h h')
  ·exact Or.inl h
 ·rcases h' with h' | ⟨rfl,h'⟩
  ·exact Or.inl h'
  ·exact Or.inr ⟨rfl,by omega⟩
theorem qng{a:ByteArray}{m:Int}(h:nmLt a m a m):False:=by
 rcases h with h | ⟨_,h⟩
 ·exact List.lt_irrefl _ h
 ·omega
def Rise{α:Type}(who:α->ByteArray)(seq:α->Int)(l:List α):Prop:=∀(i:Nat) (a b:α),l[i]?=some a->l[i+1]?=some b->nmLt (who a) (seq a) (who b) (seq b)
theorem Rise.lt{α:Type}{who:α->ByteArray}{seq:α->Int}{l:List α}(h:Rise who seq l):∀(d i:Nat) (a b:α),l[i]?=some a->l[i+d+1]?=some b->nmLt (who a) (seq a) (who b) (seq b)
 |0,i,a,b,ha,hb=>h i a b ha hb
 |d+1,i,a,b,ha,hb=>by
  have hlt:i+d+1<l.length:=by have:=(Ao.1 hb).1;omega
  have h1:=h.lt d i a l[i+d+1] ha (Ag hlt);have h2:=h (i+d+1) l[i+d+1] b (Ag hlt) hb;exact nmLt_tr h1 h2
theorem Rise.uniq{bs:List BlkV}(h:Rise BlkV.who BlkV.seq bs):Uniq bs:=by
 intro i j a b ha hb e1 e2;rcases Nat.lt_trichotomy i j with hij | hij | hij
 ·have:=h.lt (j-i-1) i a b ha (by rw[show i+(j-i-1)+1=j by omega];exact hb);rw[e1,e2]at this;exact(qng this).elim
 ·exact hij
 ·have:=h.lt (i-j-1) j b a hb (by rw[show j+(i-j-1)+1=i by omega];exact ha);rw[e1,e2]at this;exact(qng this).elim
end
end Rf
section
namespace Rf
open Go
abbrev Txt:=List UInt8
structure StpV where
 who:ByteArray
 seq:Int
 zone:Int
 hour:Int
 buy:Bool
 qty:Int
 qe:Int
 deriving Inhabited
structure qz where
 src:Int
 dst:Int
 cap:Int
 deriving Inhabited
structure q10 where
 qa:Int
 qg:Int
 lines:List qz
 low:Int
 high:Int
 deriving Inhabited
structure ResV where
 accept:List Bool
 x:List Txt
 f:List (List Txt)
 p:List (List Txt)
 qn:Txt
 upper:Txt
 q86:Bool
 nodes:Int
 deriving Inhabited
def qp(n lo hi:Int):Bool:=decide (lo<=n)&&decide (n<=hi)
def q3o(g:q10)(l:qz):Bool:=qp l.src 0 (g.qa-1)&&qp l.dst 0 (g.qa-1)&&l.src !=l.dst&&qp l.cap 0 1000
def q36(g:q10):Bool:=qp g.qa 1 3&&qp g.qg 1 3&&decide (g.lines.length<=3)&&g.lines.all (q3o g)&&qp g.low (-100000) g.high&&decide (g.high<=100000)
def q3e(g:q10)(s:StpV):Bool:=qp s.zone 0 (g.qa-1)&&qp s.hour 0 (g.qg-1)&&qp s.qty 1 1000&&qp s.qe g.low g.high
def q33(g:q10)(b:BlkV):Bool:=qp b.zone 0 (g.qa-1)&&qp b.qe g.low g.high&&decide ((b.qty.length:Int)=g.qg)&&b.qty.all (λq=>qp q 0 1000)&&b.qty.any (λq=>decide (0<q))
def nmB(a:ByteArray)(m:Int)(b:ByteArray)(n:Int):Bool:=Op.bytesLess a.toList b.toList||a.toList==b.toList&&decide (m<n)
def q74(ss:List StpV):Bool:=(List.range' 1 (ss.length-1)).all λi=>match ss[i-1]?,ss[i]? with | some a,some b=>nmB a.who a.seq b.who b.seq | _,_=>true
def q60(bs:List BlkV):Bool:=(List.range' 1 (bs.length-1)).all λi=>match bs[i-1]?,bs[i]? with | some a,some b=>nmB a.who a.seq b.who b.seq | _,_=>true
def q28(g:q10)(ss:List StpV)(bs:List BlkV):Bool :=
 q36 g&&decide (ss.length<=32)&&decide (bs.length<=12)&&ss.all (q3e g)&&bs.all (q33 g)&&q74 ss&&q60 bs&&(List.range' 0 bs.length).all (pW bs (bs.length+1))
noncomputable def rd(t:Txt):Rat:=(pr t).getD 0
noncomputable def ResV.xAt(r:ResV)(i:Nat):Rat:=rd (r.x.getD i [])
noncomputable def ResV.fAt(r:ResV)(h i:Nat):Rat:=rd ((r.f.getD h []).getD i [])
noncomputable def ResV.pAt(r:ResV)(h z:Nat):Rat:=rd ((r.p.getD h []).getD z [])
def q5a(g:q10)(ss:List StpV)(bs:List BlkV)(r:ResV):Bool :=
 q28 g ss bs&&decide (r.accept.length=bs.length)&&decide (r.x.length=ss.length)&&decide ((r.f.length:Int)=g.qg)&&decide ((r.p.length:Int)=g.qg)&&decide (0<=r.nodes) &&
  (List.range' 0 g.qg.toNat).all λh=>decide ((r.f.getD h []).length=g.lines.length)&&decide (((r.p.getD h []).length:Int)=g.qa)
noncomputable def isNum(t:Txt):Bool:=(pr t).isSome
noncomputable def q1u(r:ResV):Bool:=r.x.all isNum&&isNum r.qn&&isNum r.upper&&r.f.all (·.all isNum)&&r.p.all (·.all isNum)
def inR(q:Rat)(lo hi:Int):Bool:=decide ((lo:Rat)<=q)&&decide (q<=(hi:Rat))
noncomputable def q4b(g:q10)(ss:List StpV)(r:ResV):Bool :=
 ((List.range' 0 ss.length).all λi=>inR (r.xAt i) 0 (ss.getD i default).qty) &&
  (List.range' 0 g.qg.toNat).all λh=>((List.range' 0 g.lines.length).all λi=>inR (r.fAt h i) (-(g.lines.getD i default).cap) (g.lines.getD i default).cap)&&(List.range' 0 g.qa.toNat).all λz=>inR (r.pAt h z) g.low g.high
def netAt(bs:List BlkV)(ac:List Bool)(h z:Nat):Nat->Int
 |0=>0
 |n+1=>netAt bs ac h z n+match bs[n]?,ac[n]? with
  |some b,some true=>if b.zone=(z:Int)/\h<b.qty.length then(if b.buy then -(b.qty.getD h 0)else b.qty.getD h 0)else 0
  |_,_=>0
def netV(bs:List BlkV)(ac:List Bool)(h z:Nat):Int:=netAt bs ac h z (min bs.length ac.length)
noncomputable def q91(ss:List StpV)(r:ResV)(h z:Nat)(n:Rat)(i:Nat):Rat :=
 match ss[i]? with
 |some s=>if s.hour=(h:Int)/\s.zone=(z:Int)then(if s.buy then n-r.xAt i else n+r.xAt i)else n
 |none=>n
noncomputable def q5g(ss:List StpV)(bs:List BlkV)(r:ResV)(h z:Nat):Rat:=(List.range' 0 ss.length).foldl (q91 ss r h z) ((netV bs r.accept h z:Int):Rat)
noncomputable def q7d(ls:List qz)(r:ResV)(h z:Nat)(n:Rat)(i:Nat):Rat :=
 match ls[i]? with
 |some l=>let a:=if l.src=(z:Int)then n+r.fAt h i else n
  if l.dst=(z:Int)then a-r.fAt h i else a
 |none=>n
noncomputable def expV(ls:List qz)(r:ResV)(h z:Nat):Rat:=(List.range' 0 ls.length).foldl (q7d ls r h z) 0
noncomputable def balV(g:q10)(ss:List StpV)(bs:List BlkV)(r:ResV):Bool :=
 (List.range' 0 g.qg.toNat).all λh=>(List.range' 0 g.qa.toNat).all λz=>decide (q5g ss bs r h z=expV g.lines r h z)
noncomputable def q8c(ss:List StpV)(r:ResV)(i:Nat):Bool :=
 match ss[i]? with
 |some s=>let p:=r.pAt s.hour.toNat s.zone.toNat
  !(decide (0<r.xAt i)&&(bif s.buy then decide ((s.qe:Rat)<p)else decide (p<(s.qe:Rat))))&&!(decide (r.xAt i<(s.qty:Rat))&&(bif s.buy then decide (p<(s.qe:Rat))else decide ((s.qe:Rat)<p)))
 |none=>true
noncomputable def q4l(ss:List StpV)(r:ResV):Bool:=(List.range' 0 ss.length).all (q8c ss r)
noncomputable def q7g(ls:List qz)(r:ResV)(h i:Nat):Bool :=
 match ls[i]? with
 |some l=>let a:=r.pAt h l.src.toNat
  let b:=r.pAt h l.dst.toNat
  !(decide (((-l.cap:Int):Rat)<r.fAt h i)&&decide (b<a))&&!(decide (r.fAt h i<(l.cap:Rat))&&decide (a<b))
 |none=>true
noncomputable def q7f(g:q10)(r:ResV):Bool:=(List.range' 0 g.qg.toNat).all λh=>(List.range' 0 g.lines.length).all (q7g g.lines r h)
def AccV(bs:List BlkV)(ac:List Bool)(i:Nat)(b:BlkV):Prop:=bs[i]?=some b/\ac[i]?=some true
def LinkAt(bs:List BlkV)(ac:List Bool)(i:Nat):Prop :=
 ∀b,AccV bs ac i b->(b.parent<=0\/∃j c,AccV bs ac j c/\c.who=b.who/\c.seq=b.parent)/\∀j c,j≠i->AccV bs ac j c->c.who=b.who->0<b.group->c.group≠b.group
open Classical in
noncomputable def q4n(bs:List BlkV)(ac:List Bool):Bool:=decide (bs.length=ac.length)&&decide (∀i,LinkAt bs ac i)
noncomputable def qax(b:BlkV)(r:ResV):Rat:=(List.range' 0 b.qty.length).foldl (λn h=>n+(r.pAt h b.zone.toNat-(b.qe:Rat))*((b.qty.getD h 0:Int):Rat)) 0
noncomputable def q5p(b:BlkV)(r:ResV):Rat:=bif b.buy then -(qax b r)else qax b r
noncomputable def q5o(bs:List BlkV)(r:ResV):Bool:=(List.range' 0 bs.length).all λi=>match bs[i]?,r.accept[i]? with
 |some b,some true=>decide (0<=q5p b r)
 |_,_=>true
def q1e(buy:Bool)(p:Int):Int:=bif buy then p else -p
noncomputable def welS(ss:List StpV)(r:ResV):Rat:=(List.range' 0 ss.length).foldl (λn i=>match ss[i]? with | some s=>n+r.xAt i*((q1e s.buy s.qe:Int):Rat) | none=>n) 0
noncomputable def welB(bs:List BlkV)(r:ResV)(n0:Rat):Rat:=(List.range' 0 (min r.accept.length bs.length)).foldl (λn i=>match bs[i]?,r.accept[i]? with
 |some b,some true=>b.qty.foldl (λ(n:Rat) (q:Int)=>n+(q:Rat)*((q1e b.buy b.qe:Int):Rat)) n
 |_,_=>n) n0
noncomputable def welV(ss:List StpV)(bs:List BlkV)(r:ResV):Rat:=welB bs r (welS ss r)
noncomputable def q9l(ss:List StpV)(bs:List BlkV)(r:ResV):Bool:=decide (qx (welV ss bs r)=r.qn)
noncomputable def upV(r:ResV):Bool:=decide (rd r.qn<=rd r.upper)&&(!r.q86||decide (r.upper=r.qn))
noncomputable def chkV(g:q10)(ss:List StpV)(bs:List BlkV)(r:ResV):Int :=
 if q5a g ss bs r=false then 1 else if q1u r=false then 2 else if q4b g ss r=false then 3 else if balV g ss bs r=false then 4 else if q4l ss r=false then 5 else if q7f g r=false then 6
 else if q4n bs r.accept=false then 7 else if q5o bs r=false then 8 else if q9l ss bs r=false then 9 else if upV r=false then 10 else 0
end Rf
end
namespace Rf
open Go
section
theorem qa3{α:Type}(L:List α)(i j:Nat)(v d:α)(hi:i<L.length):(L.set i v).getD j d=if i=j then v else L.getD j d:=by
 rw[AG,AG,Fb];by_cases h:i=j
 ·subst h;simp[hi]
 ·simp[h]
section
variable {ss:List StpV} {ls:List qz} {r:ResV} {h:Nat}
noncomputable def stepP(ss:List StpV)(r:ResV)(h:Nat)(L:List Rat)(i:Nat):List Rat:=match ss[i]? with
 |some s=>if s.hour=(h:Int)then(if s.buy then L.set s.zone.toNat (L.getD s.zone.toNat 0-r.xAt i)else L.set s.zone.toNat (L.getD s.zone.toNat 0+r.xAt i))else L
 |none=>L
noncomputable def lineP(ls:List qz)(r:ResV)(h:Nat)(L:List Rat)(i:Nat):List Rat:=match ls[i]? with
 |some l=>(L.set l.src.toNat (L.getD l.src.toNat 0-r.fAt h i)).set l.dst.toNat ((L.set l.src.toNat (L.getD l.src.toNat 0-r.fAt h i)).getD l.dst.toNat 0+r.fAt h i)
 |none=>L
theorem qm4(L:List Rat)(i:Nat):(stepP ss r h L i).length=L.length:=by
 unfold stepP;split
 ·split
  ·split <;> simp
  ·rfl
 ·rfl
theorem qm3(L:List Rat)(i:Nat):(lineP ls r h L i).length=L.length:=by
 unfold lineP;split
 ·simp
 ·rfl
theorem stepP_at{Z:Nat}(hz:∀s,s∈ss->0<=s.zone/\s.zone<(Z:Int)){L:List Rat}(hL:L.length=Z)(i:Nat){z:Nat}(hzl:z<Z):(stepP ss r h L i).getD z 0=q91 ss r h z (L.getD z 0) i:=by
 unfold stepP q91;cases hs:ss[i]? with
 |none=>rfl
 |some s =>
  obtain⟨h0,h1⟩:=hz s (AS hs);have hlt:s.zone.toNat<L.length:=by omega
  have he:(s.zone.toNat=z)↔(s.zone=(z:Int)):=by omega
  simp only;by_cases hh:s.hour=(h:Int)
  ·rw[if_pos hh];by_cases hzz:s.zone=(z:Int)
   ·have hb:s.hour=(h:Int)/\s.zone=(z:Int):=⟨hh,hzz⟩;rw[if_pos hb];have:=he.2 hzz;cases s.buy
    ·simp only[Br,BH];rw[qa3 _ _ _ _ _ hlt,if_pos this,this]
    ·simp only[AW];rw[qa3 _ _ _ _ _ hlt,if_pos this,this]
   ·have hb:¬ (s.hour=(h:Int)/\s.zone=(z:Int)):=λq=>hzz q.2;rw[if_neg hb];have hne:s.zone.toNat≠z:=λq=>hzz (he.1 q);cases s.buy
    ·simp only[Br,BH];rw[qa3 _ _ _ _ _ hlt,if_neg hne]
    ·simp only[AW];rw[qa3 _ _ _ _ _ hlt,if_neg hne]
  ·have hb:¬ (s.hour=(h:Int)/\s.zone=(z:Int)):=λq=>hh q.1;rw[if_neg hh,if_neg hb]
theorem lineP_at{Z:Nat}(hz:∀l,l∈ls->0<=l.src/\l.src<(Z:Int)/\0<=l.dst/\l.dst<(Z:Int)){L:List Rat}(hL:L.length=Z)(i:Nat){z:Nat}(hzl:z<Z){a b:Rat}(hab:L.getD z 0=a-b) :
  (lineP ls r h L i).getD z 0=a-q7d ls r h z b i:=by
 unfold lineP q7d;cases hs:ls[i]? with
 |none=>exact hab
 |some l =>
  obtain⟨h0,h1,h2,h3⟩:=hz l (AS hs);have hlt:l.src.toNat<L.length:=by omega
  have hlt2:l.dst.toNat<(L.set l.src.toNat (L.getD l.src.toNat 0-r.fAt h i)).length:=by rw[Fu];omega
  have he:(l.src.toNat=z)↔(l.src=(z:Int)):=by omega
  have he2:(l.dst.toNat=z)↔(l.dst=(z:Int)):=by omega
  simp only;rw[qa3 _ _ _ _ _ hlt2];by_cases hd:l.dst=(z:Int)
  ·rw[if_pos (he2.2 hd),if_pos hd,he2.2 hd,qa3 _ _ _ _ _ hlt];by_cases hsr:l.src=(z:Int)
   ·rw[if_pos (he.2 hsr),if_pos hsr,he.2 hsr,hab]
    grind
   ·have hb:¬ l.src.toNat=z:=λq=>hsr (he.1 q);rw[if_neg hb,if_neg hsr,hab]
    grind
  ·have hb2:¬ l.dst.toNat=z:=λq=>hd (he2.1 q);rw[if_neg hb2,if_neg hd,qa3 _ _ _ _ _ hlt];by_cases hsr:l.src=(z:Int)
   ·rw[if_pos (he.2 hsr),if_pos hsr,he.2 hsr,hab]
    grind
   ·have hb:¬ l.src.toNat=z:=λq=>hsr (he.1 q);rw[if_neg hb,if_neg hsr,hab]
theorem qmu{Z:Nat}(hz:∀s,s∈ss->0<=s.zone/\s.zone<(Z:Int)){z:Nat}(hzl:z<Z):∀(l:List Nat) (L:List Rat),L.length=Z->(l.foldl (stepP ss r h) L).length=Z/\(l.foldl (stepP ss r h) L).getD z 0=l.foldl (q91 ss r h z) (L.getD z 0)
 |[],L,hL=>⟨hL,rfl⟩
 |i::l,L,hL=>by
  rw[Be,Be,<- stepP_at hz hL i hzl];exact qmu hz hzl l _ ((qm4 L i).trans hL)
theorem qmv{Z:Nat}(hz:∀l,l∈ls->0<=l.src/\l.src<(Z:Int)/\0<=l.dst/\l.dst<(Z:Int)){z:Nat}(hzl:z<Z){a:Rat}:∀(l:List Nat) (L:List Rat) (b:Rat),L.length=Z->L.getD z 0=a-b->(l.foldl (lineP ls r h) L).getD z 0=a-l.foldl (q7d ls r h z) b
 |[],L,b,hL,hab=>hab
 |i::l,L,b,hL,hab=>by
  rw[Be,Be];exact qmv hz hzl l _ _ ((qm3 L i).trans hL) (lineP_at hz hL i hzl hab)
theorem left_at{Z:Nat}{bs:List BlkV}(hs:∀s,s∈ss->0<=s.zone/\s.zone<(Z:Int))(hl:∀l,l∈ls->0<=l.src/\l.src<(Z:Int)/\0<=l.dst/\l.dst<(Z:Int)){L:List Rat}(hL:L.length=Z){z:Nat}(hzl:z<Z)
  (h0:L.getD z 0=((netV bs r.accept h z:Int):Rat)):((List.range' 0 ls.length).foldl (lineP ls r h) ((List.range' 0 ss.length).foldl (stepP ss r h) L)).getD z 0=q5g ss bs r h z-expV ls r h z:=by
 obtain⟨q1,q2⟩:=qmu (r:=r) (h:=h) hs hzl (List.range' 0 ss.length) L hL;refine qmv hl hzl _ _ 0 q1 ?_;rw[q2,h0];unfold q5g
 grind
end
theorem cmp_lt{q r:Rat}:(q24 (q.num*r.den) (r.num*q.den)<0)↔q<r:=by
 rw[Rat.lt_iff];unfold q24;split
 ·rename_i h;exact⟨λ_=>h,λ_=>by omega⟩
 ·rename_i h;constructor
  ·intro q;split at q <;> omega
  ·intro q;exact absurd q h
theorem cmp_gt{q r:Rat}:(0<q24 (q.num*r.den) (r.num*q.den))↔r<q:=by
 rw[Rat.lt_iff];unfold q24;split
 ·rename_i h;constructor
  ·intro q;omega
  ·intro q;omega
 ·split
  ·rename_i h h';exact⟨λ_=>h',λ_=>by omega⟩
  ·rename_i h h';constructor
   ·intro q;omega
   ·intro q;exact absurd q h'
theorem cmp_le{q r:Rat}:(q24 (q.num*r.den) (r.num*q.den)<=0)↔q<=r:=by
 rw[<- Ci,<- cmp_gt];omega
theorem cmp_ge{q r:Rat}:(0<=q24 (q.num*r.den) (r.num*q.den))↔r<=q:=by
 rw[<- Ci,<- cmp_lt];omega
theorem cmp_eq{q r:Rat}:(q24 (q.num*r.den) (r.num*q.den)=0)↔q=r:=by
 constructor
 ·intro h;exact Rat.le_antisymm (cmp_le.1 (by omega)) (cmp_ge.1 (by omega))
 ·intro h;subst h;unfold q24;rw[if_neg (by omega),if_neg (by omega)]
theorem sgn_neg{q:Rat}:(q.num.sign<0)↔q<0:=by
 rw[Int.sign_neg_iff];constructor
 ·intro h;rw[<- Cb,<- DL];omega
 ·intro h;rw[<- Cb,<- DL]at h;omega
theorem sgn_pos{q:Rat}:(0<q.num.sign)↔0<q:=by
 rw[Int.sign_pos_iff];constructor
 ·intro h;have h1:0<=q:=DL.1 (by omega);have h2:q≠0:=λe=>by rw[e]at h;exact absurd h (by decide)
  exact Cb.1 λh3=>h2 (Rat.le_antisymm h3 h1)
 ·intro h;have h1:0<=q.num:=DL.2 (Rat.le_of_lt h);have h2:q.num≠0:=λe=>by rw[Rat.num_eq_zero.1 e]at h;exact absurd h (by decide)
  omega
theorem sgn_zero{q:Rat}:(q.num.sign=0)↔q=0:=by
 rw[FI];exact Rat.num_eq_zero
theorem qu2{a b:Rat}:a-b=0↔a=b:=by
 constructor
 ·intro h;have:a=(a-b)+b:=by grind
  rw[this,h]
  grind
 ·intro h;subst h
  grind
end
section
structure Blk where
 who:ByteArray
 seq:Int
 zone:Int
 buy:Bool
 qe:Int
 qty:List FV
 parent:Int
 group:Int
def Blk.fv(b:Blk):FV:=.agg [.str b.who,.int .i64 b.seq,.int .i64 b.zone,.bool b.buy,.int .i64 b.qe,.list 1 b.qty,.int .i64 b.parent,.int .i64 b.group]
def blkShp:List Shp:=[.str,.int .i64,.int .i64,.bool,.int .i64,.lst false 8 [.int .i64],.int .i64,.int .i64]
section
variable {bs:List Blk} {ac:List Bool}
def Acc(bs:List Blk)(ac:List Bool)(i:Nat)(b:Blk):Prop:=bs[i]?=some b/\ac[i]?=some true
def cnt(bs:List Blk)(ac:List Bool)(p:Blk->Bool)(n:Nat):Nat:=((bs.zip ac).take n).countP λx=>x.2&&p x.1
theorem cnt_le(p:Blk->Bool)(n:Nat):cnt bs ac p n<=n:=by
 unfold cnt;exact AZ List.countP_le_length (by simp;omega)
theorem cnt_succ{p:Blk->Bool}{i:Nat}{b:Blk}{a:Bool}(hb:bs[i]?=some b)(ha:ac[i]?=some a):cnt bs ac p (i+1)=cnt bs ac p i+(if a&&p b then 1 else 0):=by
 unfold cnt;rw[DC];have:(bs.zip ac)[i]?=some (b,a):=CM.2 ⟨hb,ha⟩;rw[this,List.countP_append];simp[List.countP_cons]
theorem qj0{p:Blk->Bool}{n:Nat}:cnt bs ac p n=0↔∀i b,i<n->Acc bs ac i b->p b=false:=by
 unfold cnt;rw[List.countP_eq_zero];constructor
 ·intro h i b hi ⟨h1,h2⟩;have hz:(bs.zip ac)[i]?=some (b,true):=CM.2 ⟨h1,h2⟩;have:(b,true)∈(bs.zip ac).take n:=AS (i:=i) (by rw[CN hi];exact hz);have:=h _ this;simpa using this
 ·intro h x hx;obtain⟨i,hi⟩:=Bt.1 hx;rw[Dp]at hi;split at hi
  ·rename_i hlt;obtain⟨q1,q2⟩:=CM.1 hi;cases hb:x.2 with
   |false=>simp
   |true=>rw[hb]at q2;simp[h i x.1 hlt ⟨q1,q2⟩]
  ·cases hi
theorem qj1{p:Blk->Bool}{n i:Nat}{b:Blk}(hi:i<n)(ha:Acc bs ac i b)(hp:p b=true):1<cnt bs ac p n↔∃j c,j<n/\j≠i/\Acc bs ac j c/\p c=true:=by
 have hz:(bs.zip ac)[i]?=some (b,true):=CM.2 ⟨ha.1,ha.2⟩;have hlt:i<(bs.zip ac).length:=(Ao.1 hz).1;have hsplit:(bs.zip ac).take n=(bs.zip ac).take i++(b,true)::((bs.zip ac).take n).drop (i+1):=by
  have h1:((bs.zip ac).take n).take i=(bs.zip ac).take i:=by rw[List.take_take];congr 1;omega
  have h2:((bs.zip ac).take n)[i]?=some (b,true):=by rw[CN hi];exact hz
  rw[<- h1]
  conv=>lhs;rw[<- BW i ((bs.zip ac).take n)]
  congr 1;have hlt2:=(Ao.1 h2).1;rw[AY hlt2];congr 1;exact(Ao.1 h2).2
 unfold cnt;rw[hsplit,List.countP_append,List.countP_cons];simp only[AB,hp,AW];constructor
 ·intro h;have:0<((bs.zip ac).take i).countP (λx=>x.2&&p x.1)\/0<(((bs.zip ac).take n).drop (i+1)).countP (λx=>x.2&&p x.1):=by omega
  rcases this with h | h
  ·obtain⟨x,hx,hpx⟩:=Ef.1 h;obtain⟨j,hj⟩:=Bt.1 hx;rw[Dp]at hj;split at hj
   ·rename_i hji;obtain⟨q1,q2⟩:=CM.1 hj;simp only[Ai]at hpx;exact⟨j,x.1,by omega,by omega,⟨q1,by rw[q2,hpx.1]⟩,hpx.2⟩
   ·cases hj
  ·obtain⟨x,hx,hpx⟩:=Ef.1 h;obtain⟨j,hj⟩:=Bt.1 hx;rw[CA,Dp]at hj;split at hj
   ·rename_i hji;obtain⟨q1,q2⟩:=CM.1 hj;simp only[Ai]at hpx;exact⟨i+1+j,x.1,by omega,by omega,⟨q1,by rw[q2,hpx.1]⟩,hpx.2⟩
   ·cases hj
 ·rintro⟨j,c,hj,hne,⟨q1,q2⟩,hpc⟩;have hzj:(bs.zip ac)[j]?=some (c,true):=CM.2 ⟨q1,q2⟩;rcases ES hne with h | h
  ·have:0<((bs.zip ac).take i).countP (λx=>x.2&&p x.1):=Ef.2 ⟨(c,true),AS (i:=j) (by rw[CN h];exact hzj),by simp[hpc]⟩;omega
  ·have:0<(((bs.zip ac).take n).drop (i+1)).countP (λx=>x.2&&p x.1) :=
    Ef.2 ⟨(c,true),AS (i:=j-(i+1)) (by rw[CA,show i+1+(j-(i+1))=j by omega,CN hj];exact hzj),by simp[hpc]⟩
   omega
def OkAt(bs:List Blk)(ac:List Bool)(i:Nat):Prop :=
 ∀b,Acc bs ac i b->(b.parent<=0\/∃j c,Acc bs ac j c/\c.who=b.who/\c.seq=b.parent)/\∀j c,j≠i->Acc bs ac j c->c.who=b.who->0<b.group->c.group≠b.group
def gk(w:ByteArray)(g:Int):FV:=.agg [.str w,.int .i64 g]
theorem keq_gk(w v:ByteArray)(g h:Int):keq (gk w g) (gk v h)=(decide (w=v)&&(g==h)):=by
 simp[keq,gk,FV.cells,keqs,keq1,toList_eq]
def q8i(e:List FV)(f:ByteArray->Int->Nat):Prop:=∀w g,mgetD e (gk w g) (.int .i64 0)=.int .i64 (f w g)
def isG(w:ByteArray)(g:Int)(b:Blk):Bool:=decide (b.who=w)&&(b.group==g)
def isN(w:ByteArray)(g:Int)(b:Blk):Bool:=decide (b.who=w)&&(b.seq==g)
theorem qj2{e:List FV}{x:Int}{f f':ByteArray->Int->Nat}{w:ByteArray}{g:Int}(h:q8i e f)(hf:∀v k,f' v k=f v k+(if(decide (w=v)&&(g==k))=true then 1 else 0)) :
  q8i (mput e (gk w g) (.int .i64 ((f w g+1:Nat):Int)) x) f':=λv k=>by
 rw[qj3,keq_gk];have h1:=hf v k;cases hk:(decide (v=w)&&(k==g))with
 |true =>
  simp only[Ai,As,Bu]at hk;obtain⟨rfl,rfl⟩:=hk;simp at h1;rw[Ac,h1]
 |false =>
  have:(decide (w=v)&&(g==k))=false:=by
   rw[<- hk,Bm];simp only[Ai,As,Bu];constructor <;> (rintro⟨rfl,rfl⟩;exact⟨rfl,rfl⟩)
  rw[this]at h1;simp at h1;rw[Ab,h1];exact h v k
theorem l5_run(hl:ac.length=bs.length)(hb:bs.length<=140737488351232)(n:Nat):∀(d i m:Nat) (e2:List FV) (x2:Int) (e3:List FV) (x3:Int),i+d=bs.length->d<m->MWf e2 x2->MWf e3 x3->q8i e2 (λw g=>cnt bs ac (isG w g) i) ->
  q8i e3 (λw g=>cnt bs ac (isN w g) i)->∃f2 y2 f3 y3,q8i f2 (λw g=>cnt bs ac (isG w g) bs.length)/\q8i f3 (λw g=>cnt bs ac (isN w g) bs.length) /\
   q2v.l5 n [] m [.list 8 (bs.map Blk.fv),.list 1 (ac.map .bool),.list 3 e2,.int .i64 x2,.list 3 e3,.int .i64 x3,.list 8 (bs.map Blk.fv),.int .i64 (bs.length:Int),.int .i64 (i:Int)] =
    q2v.l12 n [] n [.list 1 (ac.map .bool),.list 3 f2,.int .i64 y2,.list 3 f3,.int .i64 y3,.list 8 (bs.map Blk.fv),.int .i64 (bs.length:Int),.int .i64 0]
 |0,i,m+1,e2,x2,e3,x3,hi,hm,w2,w3,c2,c3=>by
  have:i=bs.length:=by omega
  subst this;refine⟨e2,x2,e3,x3,c2,c3,?_⟩;rw[q2v.q1o];simp
 |d+1,i,m+1,e2,x2,e3,x3,hi,hm,w2,w3,c2,c3=>by
  have hib:i<bs.length:=by omega
  have hia:i<ac.length:=by omega
  have hbi:bs[i]?=some bs[i]:=Ag hib;have hai:ac[i]?=some ac[i]:=Ag hia;rw[q2v.q1o];have hlt:decide ((i:Int)<(bs.length:Int))=true:=by simpa using hib
  have hix:ix (i:Int) (bs.map Blk.fv).length=some i:=q9 (by simpa using hib);have hix2:ix (i:Int) (ac.map FV.bool).length=some i:=q9 (by simpa using hia);simp only[hlt,Ac,hix,hix2,Ae,q2a,hbi,hai,Blk.fv,FV.cells,Aj,AO,q2k,qi,q41,qy];have hs:=λp=>cnt_succ (p:=p) hbi hai;rw[qc];cases ha:ac[i]with
  |false =>
   simp only[Ab];have hs':∀p,cnt bs ac p (i+1)=cnt bs ac p i:=λp=>by have:=hs p;rw[ha]at this;simpa using this
   refine l5_run hl hb n d (i+1) m e2 x2 e3 x3 (by omega) (by omega) w2 w3 (λw g=>(c2 w g).trans (by simp only[hs'])) (λw g=>(c3 w g).trans (by simp only[hs']))
  |true =>
   simp only[Ac];have hs':∀p,cnt bs ac p (i+1)=cnt bs ac p i+if p bs[i]then 1 else 0:=λp=>by have:=hs p;rw[ha]at this;simpa using this
   rw[show(FV.agg [.str bs[i].who,.int .i64 bs[i].group])=gk bs[i].who bs[i].group from rfl,show(FV.agg [.str bs[i].who,.int .i64 bs[i].seq])=gk bs[i].who bs[i].seq from rfl];simp only[c2 bs[i].who bs[i].group,c3 bs[i].who bs[i].seq,q7k,FV.cells,Aj,qi,Ae,qj4,Ac,qfg _ _ _ w2,qfg _ _ _ w3];have k2:=cnt_le (bs:=bs) (ac:=ac) (isG bs[i].who bs[i].group) i;have k3:=cnt_le (bs:=bs) (ac:=ac) (isN bs[i].who bs[i].seq) i;rw[qc,qc];refine l5_run hl hb n d (i+1) m _ _ _ _ (by omega) (by omega) w2.put w3.put (qj2 c2 λv k=>?_) (qj2 c3 λv k=>?_)
   ·rw[hs'];rfl
   ·rw[hs'];rfl
def okP(bs:List Blk)(ac:List Bool)(i:Nat):Prop :=
 ∀b,Acc bs ac i b->¬ (0<b.group/\1<cnt bs ac (isG b.who b.group) bs.length)/\¬ (0<b.parent/\cnt bs ac (isN b.who b.parent) bs.length=0)
theorem okP_iff(hl:ac.length=bs.length)(i:Nat):okP bs ac i↔OkAt bs ac i:=by
 have hlt:∀ {j c},Acc bs ac j c->j<bs.length:=λh=>(Ao.1 h.1).1;constructor
 ·intro h b hb;obtain⟨h1,h2⟩:=h b hb;refine⟨?_,λj c hj hc hw hg he=>h1 ⟨hg,(qj1 (hlt hb) hb (by simp[isG])).2 ⟨j,c,hlt hc,hj,hc,by simp[isG,hw,he]⟩⟩⟩;by_cases hp:b.parent<=0
  ·exact .inl hp
  ·right;apply BS;intro hn;refine h2 ⟨by omega,qj0.2 λj c _ hc=>?_⟩;apply AI.2;intro hq;simp only[isN,Ai,As,Bu]at hq;exact hn ⟨j,c,hc,hq.1,hq.2⟩
 ·intro h b hb;obtain⟨h1,h2⟩:=h b hb;refine⟨λ⟨hg,hc⟩=>?_,λ⟨hp,hc⟩=>?_⟩
  ·obtain⟨j,c,_,hj,hc,hq⟩:=(qj1 (hlt hb) hb (by simp[isG])).1 hc;simp only[isG,Ai,As,Bu]at hq;exact h2 j c hj hc hq.1 hg hq.2
  ·rcases h1 with h1 | ⟨j,c,hc',hw,he⟩
   ·omega
   ·have:=qj0.1 hc j c (hlt hc') hc';simp[isN,hw,he]at this
theorem l12_run(hl:ac.length=bs.length)(hb:bs.length<=140737488351232)(n:Nat){e2 e3:List FV}{x2 x3:Int}(c2:q8i e2 (λw g=>cnt bs ac (isG w g) bs.length))(c3:q8i e3 (λw g=>cnt bs ac (isN w g) bs.length)) :
  ∀(d i m:Nat),i+d=bs.length->d<m->∃r,q2v.l12 n [] m [.list 1 (ac.map .bool),.list 3 e2,.int .i64 x2,.list 3 e3,.int .i64 x3,.list 8 (bs.map Blk.fv),.int .i64 (bs.length:Int),.int .i64 (i:Int)]=some [.bool r] /\
   (r=true↔∀j,i<=j->okP bs ac j)
 |0,i,m+1,hi,hm=>by
  have:i=bs.length:=by omega
  subst this;refine⟨true,by rw[q2v.q3z];simp,by simp;intro j hj b hb;exact absurd (Ao.1 hb.1).1 (by omega)⟩
 |d+1,i,m+1,hi,hm=>by
  have hib:i<bs.length:=by omega
  have hia:i<ac.length:=by omega
  have hbi:bs[i]?=some bs[i]:=Ag hib;have hai:ac[i]?=some ac[i]:=Ag hia;obtain⟨r,hr,hiff⟩:=l12_run hl hb n c2 c3 d (i+1) m (by omega) (by omega);have step:∀ {p:Prop},(okP bs ac i↔p)->((∀j,i<=j->okP bs ac j)↔(p/\r=true)):=λhp=>by
   rw[hiff,<- hp];constructor
   ·exact λh=>⟨h i (Ak _),λj hj=>h j (by omega)⟩
   ·rintro⟨h1,h2⟩ j hj;rcases ET hj with rfl | hj
    ·exact h1
    ·exact h2 j hj
  rw[q2v.q3z];have hlt:decide ((i:Int)<(bs.length:Int))=true:=by simpa using hib
  have hix:ix (i:Int) (bs.map Blk.fv).length=some i:=q9 (by simpa using hib);have hix2:ix (i:Int) (ac.map FV.bool).length=some i:=q9 (by simpa using hia);simp only[hlt,Ac,hix,hix2,Ae,q2a,hbi,hai,Blk.fv,FV.cells,Aj,AO,q2k,qi,q41,qy];rw[qc];cases ha:ac[i]with
  |false =>
   simp only[Ab];refine⟨r,hr,?_⟩;rw[step (p:=True) ⟨λ_=>trivial,λ_ b hb=>by have:=hb.2;rw[hai,ha]at this;cases this⟩];simp
  |true =>
   simp only[Ac];rw[show(FV.agg [.str bs[i].who,.int .i64 bs[i].group])=gk bs[i].who bs[i].group from rfl,show(FV.agg [.str bs[i].who,.int .i64 bs[i].parent])=gk bs[i].who bs[i].parent from rfl];simp only[c2 bs[i].who bs[i].group,c3 bs[i].who bs[i].parent,q7k,FV.cells,Aj,qi,Ae];have hacc:Acc bs ac i bs[i]:=⟨hbi,by rw[hai,ha]⟩;have hok:okP bs ac i↔¬ (0<bs[i].group/\1<cnt bs ac (isG bs[i].who bs[i].group) bs.length)/\¬ (0<bs[i].parent/\cnt bs ac (isN bs[i].who bs[i].parent) bs.length=0) :=
    ⟨λh=>h _ hacc,λh b hb=>by have:=hb.1;rw[hbi]at this;cases this;exact h⟩
   have hstep:=step hok;have e0:∀k:Nat,((k:Int)==0)=decide (k=0):=λk=>by rw[Bm];simp
   rw[hr];by_cases g1:0<bs[i].group <;> by_cases g2:1<cnt bs ac (isG bs[i].who bs[i].group) bs.length <;> by_cases g3:0<bs[i].parent <;> by_cases g4:cnt bs ac (isN bs[i].who bs[i].parent) bs.length=0 <;>
    simp only[g1,g2,g3,g4,CX,Eg,Eh,and_false,CY,Ei]at hstep <;>
    simp[g1,g2,g3,g4,hstep,e0,show((1:Int)<(cnt bs ac (isG bs[i].who bs[i].group) bs.length:Int))↔1<cnt bs ac (isG bs[i].who bs[i].group) bs.length by omega]
theorem qp5(hl:ac.length=bs.length)(hb:bs.length<=140737488351232){n:Nat}(hn:bs.length+1<n):∃r,evF En n 20 [.list 8 (bs.map Blk.fv),.list 1 (ac.map .bool)]=some [.bool r]/\(r=true↔∀j,OkAt bs ac j):=by
 obtain⟨n,rfl⟩:=qSx n;rw[qj5];obtain⟨f2,y2,f3,y3,c2,c3,h⟩:=l5_run hl hb n bs.length 0 n [] 0 [] 0 (by omega) (by omega) trivial trivial (λw g=>by simp[mgetD,cnt]) (λw g=>by simp[mgetD,cnt]);obtain⟨r,h1,h2⟩:=l12_run hl hb n (x2:=y2) (x3:=y3) c2 c3 bs.length 0 n (by omega) (by omega);refine⟨r,?_,?_⟩
 ·simp only[Aa,hl,Dq,Ab];exact h.trans h1
 ·rw[h2];exact⟨λh j=>(okP_iff hl j).1 (h j (BP _)),λh j _=>(okP_iff hl j).2 (h j)⟩
theorem qfh{i:Nat}(h:i<bs.length)(ha:i<ac.length):Acc bs ac i bs[i]↔ac[i]=true:=by
 unfold Acc;rw[Ag h,Ag ha];simp
theorem l10_run(hl:ac.length=bs.length)(hb:bs.length<=140737488351232)(n i:Nat)(b:Blk):∀(d j m m0:Nat) (met:Bool),j+d=bs.length->d<m ->
  (∃k c,j<=k/\k≠i/\Acc bs ac k c/\c.who=b.who/\0<b.group/\c.group=b.group) /\
   q2h.l10 n [m0] m [.str b.who,.int .i64 b.seq,.int .i64 b.zone,.bool b.buy,.int .i64 b.qe,.list 1 b.qty,.int .i64 b.parent,.int .i64 b.group,.list 8 (bs.map Blk.fv),.list 1 (ac.map .bool),.int .i64 (i:Int),.bool met,.int .i64 (j:Int)]=some [.bool false] \/
  ¬ (∃k c,j<=k/\k≠i/\Acc bs ac k c/\c.who=b.who/\0<b.group/\c.group=b.group) /\
   (((met=true\/∃k c,j<=k/\Acc bs ac k c/\c.who=b.who/\c.seq=b.parent) /\
    q2h.l10 n [m0] m [.str b.who,.int .i64 b.seq,.int .i64 b.zone,.bool b.buy,.int .i64 b.qe,.list 1 b.qty,.int .i64 b.parent,.int .i64 b.group,.list 8 (bs.map Blk.fv),.list 1 (ac.map .bool),.int .i64 (i:Int),.bool met,.int .i64 (j:Int)] =
     q2h.l4 n [] m0 [.list 8 (bs.map Blk.fv),.list 1 (ac.map .bool),.int .i64 (w6 ((i:Int)+1))]) \/
    (¬ (met=true\/∃k c,j<=k/\Acc bs ac k c/\c.who=b.who/\c.seq=b.parent) /\
    q2h.l10 n [m0] m [.str b.who,.int .i64 b.seq,.int .i64 b.zone,.bool b.buy,.int .i64 b.qe,.list 1 b.qty,.int .i64 b.parent,.int .i64 b.group,.list 8 (bs.map Blk.fv),.list 1 (ac.map .bool),.int .i64 (i:Int),.bool met,.int .i64 (j:Int)]=some [.bool false]))
 |0,j,m+1,m0,met,hj,hm=>by
  have:j=bs.length:=by omega
  subst this;have no:∀ {k c},bs.length<=k->¬ Acc bs ac k c:=λhk h=>absurd (Ao.1 h.1).1 (by omega);refine .inr ⟨λ⟨k,c,hk,_,h,_⟩=>no hk h,?_⟩;rw[q2h.q4d];cases met with
  |true=>exact .inl ⟨.inl rfl,by simp⟩
  |false=>exact .inr ⟨λh=>by
                    rcases h with h | ⟨k,c,hk,h,_⟩;· cases h
                    ·exact no hk h,by simp⟩
 |d+1,j,m+1,m0,met,hj,hm=>by
  have hib:j<bs.length:=by omega
  have hia:j<ac.length:=by omega
  have hbi:bs[j]?=some bs[j]:=Ag hib;have hai:ac[j]?=some ac[j]:=Ag hia;have hlt:decide ((j:Int)<((bs.map Blk.fv).length:Int))=true:=by simpa using hib
  have hix:ix (j:Int) (bs.map Blk.fv).length=some j:=q9 (by simpa using hib);have hix2:ix (j:Int) (ac.map FV.bool).length=some j:=q9 (by simpa using hia);have ih:=λmet=>l10_run hl hb n i b d (j+1) m m0 met (by omega) (by omega);rw[q2h.q4d];simp only[hlt,Ac,hix,hix2,Ae,q2a,hbi,hai,Blk.fv,FV.cells,Aj,AO,q2k,qi,q41,toList_eq];rw[qc];have splitE:∀ {p:Nat->Blk->Prop},(∃k c,j<=k/\p k c/\Acc bs ac k c)↔((ac[j]=true/\p j bs[j])\/∃k c,j+1<=k/\p k c/\Acc bs ac k c):=by
   intro p;constructor
   ·rintro⟨k,c,hk,hp,h⟩;rcases ET hk with rfl | hk
    ·have:=h.1;rw[hbi]at this;cases this;exact .inl ⟨(qfh hib hia).1 h,hp⟩
    ·exact .inr ⟨k,c,hk,hp,h⟩
   ·rintro(⟨h1,h2⟩ | ⟨k,c,hk,hp,h⟩)
    ·exact⟨j,_,Ak _,h2,(qfh hib hia).2 h1⟩
    ·exact⟨k,c,by omega,hp,h⟩
  have e1:(∃k c,j<=k/\k≠i/\Acc bs ac k c/\c.who=b.who/\0<b.group/\c.group=b.group)↔((ac[j]=true/\j≠i/\bs[j].who=b.who/\0<b.group/\bs[j].group=b.group)\/∃k c,j+1<=k/\k≠i/\Acc bs ac k c/\c.who=b.who/\0<b.group/\c.group=b.group):=by
   have:=splitE (p:=λk c=>k≠i/\c.who=b.who/\0<b.group/\c.group=b.group);constructor
   ·rintro⟨k,c,h1,h2,h3,h4⟩;rcases this.1 ⟨k,c,h1,⟨h2,h4⟩,h3⟩ with h | ⟨k,c,h1,⟨h2,h4⟩,h3⟩
    ·exact .inl h
    ·exact .inr ⟨k,c,h1,h2,h3,h4⟩
   ·rintro(h | ⟨k,c,h1,h2,h3,h4⟩)
    ·obtain⟨k,c,h1,⟨h2,h4⟩,h3⟩:=this.2 (.inl h);exact⟨k,c,h1,h2,h3,h4⟩
    ·exact⟨k,c,by omega,h2,h3,h4⟩
  have e2:(∃k c,j<=k/\Acc bs ac k c/\c.who=b.who/\c.seq=b.parent)↔((ac[j]=true/\bs[j].who=b.who/\bs[j].seq=b.parent)\/∃k c,j+1<=k/\Acc bs ac k c/\c.who=b.who/\c.seq=b.parent):=by
   have:=splitE (p:=λ_ c=>c.who=b.who/\c.seq=b.parent);constructor
   ·rintro⟨k,c,h1,h3,h4⟩;rcases this.1 ⟨k,c,h1,h4,h3⟩ with h | ⟨k,c,h1,h4,h3⟩
    ·exact .inl h
    ·exact .inr ⟨k,c,h1,h3,h4⟩
   ·rintro(h | ⟨k,c,h1,h3,h4⟩)
    ·obtain⟨k,c,h1,h4,h3⟩:=this.2 (.inl h);exact⟨k,c,h1,h3,h4⟩
    ·exact⟨k,c,by omega,h3,h4⟩
  rw[e1,e2];clear e1 e2 splitE;cases ha:ac[j]with
  |false =>
   simp only[AV,Ac,Br,Eg,false_or];exact ih met
  |true =>
   simp only[Am,Ab,CX];by_cases hw:bs[j].who=b.who
   ·have hx:((j:Int) !=(i:Int))=decide (j≠i):=by rw[Bm];simp;omega
    have hgg':(bs[j].group==b.group)=decide (bs[j].group=b.group):=by rw[Bm];simp
    have hs':(bs[j].seq==b.parent)=decide (bs[j].seq=b.parent):=by rw[Bm];simp
    have ih1:=ih true;have ih2:=ih false;clear ih hix hix2 hlt hbi hai ha;simp only[hx,hgg',hs',hw,DI,Am,Ab,CX,gt_iff_lt];generalize bs[j].group=g1 at *
    generalize bs[j].seq=s1 at *
    by_cases hij:j=i <;> by_cases hg:0<b.group <;> by_cases hgg:g1=b.group <;> by_cases hs:s1=b.parent <;> cases met <;>
     simp only[ne_eq,hij,hg,hgg,hs,DI,decide_false,Ac,Ab,CX,Eg,Eh,and_false,true_or,false_or,or_true,or_false,CY,Ei,Br]at ih1 ih2 ⊢ <;> first | exact ih1 | exact ih2
   ·simp only[hw,decide_false,AV,Ac,Eg,and_false,false_or];exact ih met
theorem l4_run(hl:ac.length=bs.length)(hb:bs.length<=140737488351232){n:Nat}(hn:bs.length<n):∀(d i m:Nat),i+d=bs.length->d<m->∃r,q2h.l4 n [] m [.list 8 (bs.map Blk.fv),.list 1 (ac.map .bool),.int .i64 (i:Int)]=some [.bool r]/\(r=true↔∀j,i<=j->OkAt bs ac j)
 |0,i,m+1,hi,hm=>by
  have:i=bs.length:=by omega
  subst this;refine⟨true,by rw[q2h.q14];simp,by simp;intro j hj b hb;exact absurd (Ao.1 hb.1).1 (by omega)⟩
 |d+1,i,m+1,hi,hm=>by
  have hib:i<bs.length:=by omega
  have hia:i<ac.length:=by omega
  have hbi:bs[i]?=some bs[i]:=Ag hib;have hai:ac[i]?=some ac[i]:=Ag hia;obtain⟨r,hr,hiff⟩:=l4_run hl hb hn d (i+1) m (by omega) (by omega);have step:∀ {p:Prop},(OkAt bs ac i↔p)->((∀j,i<=j->OkAt bs ac j)↔(p/\r=true)):=λhp=>by
   rw[hiff,<- hp];constructor
   ·exact λh=>⟨h i (Ak _),λj hj=>h j (by omega)⟩
   ·rintro⟨h1,h2⟩ j hj;rcases ET hj with rfl | hj
    ·exact h1
    ·exact h2 j hj
  have hlt:decide ((i:Int)<((bs.map Blk.fv).length:Int))=true:=by simpa using hib
  have hix:ix (i:Int) (bs.map Blk.fv).length=some i:=q9 (by simpa using hib);have hix2:ix (i:Int) (ac.map FV.bool).length=some i:=q9 (by simpa using hia);rw[q2h.q14];simp only[hlt,Ac,hix,hix2,Ae,q2a,hbi,hai,Blk.fv,FV.cells,Aj,AO,q2k,qi,q41,qy];cases ha:ac[i]with
  |false =>
   simp only[AV,Ac];rw[qc];refine⟨r,hr,?_⟩;rw[step (p:=True) ⟨λ_=>trivial,λ_ b hb=>by have:=hb.2;rw[hai,ha]at this;cases this⟩];simp
  |true =>
   simp only[Am,Ab];have hacc:Acc bs ac i bs[i]:=(qfh hib hia).2 ha;have hone:OkAt bs ac i↔(bs[i].parent<=0\/∃j c,Acc bs ac j c/\c.who=bs[i].who/\c.seq=bs[i].parent)/\∀j c,j≠i->Acc bs ac j c->c.who=bs[i].who->0<bs[i].group->c.group≠bs[i].group :=
    ⟨λh=>h _ hacc,λh b hb=>by have:=hb.1;rw[hbi]at this;cases this;exact h⟩
   have hstep:=step hone;have key:=l10_run hl hb n i bs[i] bs.length 0 n m (decide (bs[i].parent<=0)) (by omega) hn;rw[qc,hr]at key;rcases key with⟨⟨k,c,_,k1,k2,k3,k4,k5⟩,h⟩ | ⟨hno,⟨hmet,h⟩ | ⟨hmet,h⟩⟩
   ·refine⟨false,h,?_⟩;rw[hstep];simp only[Br,false_iff];rintro⟨⟨_,q⟩,_⟩;exact q k c k1 k2 k3 k4 k5
   ·refine⟨r,h,?_⟩;rw[hstep];refine⟨λhr=>⟨⟨?_,λj c h1 h2 h3 h4 h5=>hno ⟨j,c,BP _,h1,h2,h3,h4,h5⟩⟩,hr⟩,λh=>h.2⟩;rcases hmet with h1 | ⟨k,c,_,h1⟩
    ·exact .inl (by simpa using h1)
    ·exact .inr ⟨k,c,h1⟩
   ·refine⟨false,h,?_⟩;rw[hstep];simp only[Br,false_iff];rintro⟨⟨q,_⟩,_⟩;apply hmet;rcases q with q | ⟨j,c,q⟩
    ·exact .inl (by simpa using q)
    ·exact .inr ⟨j,c,BP _,q⟩
theorem ref_run(hl:ac.length=bs.length)(hb:bs.length<=140737488351232){n:Nat}(hn:bs.length+1<n):∃r,evF En n 21 [.list 8 (bs.map Blk.fv),.list 1 (ac.map .bool)]=some [.bool r]/\(r=true↔∀j,OkAt bs ac j):=by
 obtain⟨n,rfl⟩:=qSx n;rw[qj6];obtain⟨r,h1,h2⟩:=l4_run hl hb (n:=n) (by omega) bs.length 0 n (by omega) (by omega);refine⟨r,?_,?_⟩
 ·simp only[Aa,hl,Dq,Ab];exact h1
 ·rw[h2];exact⟨λh j=>h j (BP _),λh j _=>h j⟩
end
def BlkV.blk(b:BlkV):Blk:=⟨b.who,b.seq,b.zone,b.buy,b.qe,b.qty.map λq=>.int .i64 q,b.parent,b.group⟩
def BlkV.fv(b:BlkV):FV:=b.blk.fv
theorem blk_fv(bs:List BlkV):bs.map BlkV.fv=(bs.map BlkV.blk).map Blk.fv:=by rw[Cu];rfl
section
variable {bs:List BlkV} {ac:List Bool}
theorem qab{i:Nat}{c:Blk}:Acc (bs.map BlkV.blk) ac i c↔∃b,AccV bs ac i b/\b.blk=c:=by
 unfold Acc AccV;rw[Bq];constructor
 ·rintro⟨h1,h2⟩;cases hb:bs[i]? with
  |none=>rw[hb]at h1;cases h1
  |some b=>rw[hb]at h1;cases h1;exact⟨b,⟨rfl,h2⟩,rfl⟩
 ·rintro⟨b,⟨h1,h2⟩,rfl⟩;exact⟨by rw[h1];rfl,h2⟩
theorem qj7{i:Nat}:OkAt (bs.map BlkV.blk) ac i↔LinkAt bs ac i:=by
 unfold OkAt LinkAt;constructor
 ·intro h b hb;obtain⟨h1,h2⟩:=h b.blk (qab.2 ⟨b,hb,rfl⟩);refine⟨h1.imp id λ⟨j,c,hc,e1,e2⟩=>?_,λj c hj hc e1 e2=>h2 j c.blk hj (qab.2 ⟨c,hc,rfl⟩) e1 e2⟩;obtain⟨c',hc',rfl⟩:=qab.1 hc;exact⟨j,c',hc',e1,e2⟩
 ·intro h c hc;obtain⟨b,hb,rfl⟩:=qab.1 hc;obtain⟨h1,h2⟩:=h b hb;refine⟨h1.imp id λ⟨j,c,hc,e1,e2⟩=>⟨j,c.blk,qab.2 ⟨c,hc,rfl⟩,e1,e2⟩,λj c hj hc e1 e2=>?_⟩;obtain⟨c',hc',rfl⟩:=qab.1 hc;exact h2 j c' hj hc' e1 e2
theorem link_ne{f:Nat}(hl:bs.length≠ac.length):q4n bs ac=false:=by
 unfold q4n;rw[Ad hl,Ck]
theorem link_eq(hl:bs.length=ac.length){r:Bool}(h:r=true↔∀j,OkAt (bs.map BlkV.blk) ac j):r=q4n bs ac:=by
 unfold q4n;rw[Af hl,AB,Bm,h];simp only[As];exact⟨λq i=>qj7.1 (q i),λq i=>qj7.2 (q i)⟩
theorem linked_ev(hb:bs.length<=1000000):Ev En 20 [.list 8 (bs.map BlkV.fv),.list 1 (ac.map .bool)] [.bool (q4n bs ac)]:=by
 by_cases hl:bs.length=ac.length
 ·refine⟨bs.length+2,λn hn=>?_⟩;obtain⟨r,h1,h2⟩:=qp5 (bs:=bs.map BlkV.blk) (ac:=ac) (by rw[Aa];exact hl.symm) (by rw[Aa];omega) (n:=n) (by rw[Aa];omega);rw[blk_fv,h1,link_eq hl h2]
 ·refine Ev.of 0 λn _=>?_;rw[qj5,link_ne (f:=0) hl,Aa,Aa,show((bs.length:Int) !=(ac.length:Int))=true by simp;omega,Ac]
theorem qp6(hb:bs.length<=1000000):Ev En 21 [.list 8 (bs.map BlkV.fv),.list 1 (ac.map .bool)] [.bool (q4n bs ac)]:=by
 by_cases hl:bs.length=ac.length
 ·refine⟨bs.length+2,λn hn=>?_⟩;obtain⟨r,h1,h2⟩:=ref_run (bs:=bs.map BlkV.blk) (ac:=ac) (by rw[Aa];exact hl.symm) (by rw[Aa];omega) (n:=n) (by rw[Aa];omega);rw[blk_fv,h1,link_eq hl h2]
 ·refine Ev.of 0 λn _=>?_;rw[qj6,link_ne (f:=0) hl,Aa,Aa,show((bs.length:Int) !=(ac.length:Int))=true by simp;omega,Ac]
end
end
section
def runL{σ:Type}(g:Nat->σ->Option σ):Nat->Nat->σ->Option σ
 |0,_,s=>some s
 |d+1,i,s=>match g i s with
  |some s'=>runL g d (i+1) s'
  |none=>none
theorem loop_run{σ:Type}{F:Nat->Nat->σ->Res}{len:Nat}{g:Nat->σ->Option σ}{fin:σ->Res}{stop:Res}(I:Nat->σ->Prop)
  (hs:∀m i s,i<len->I i s->F (m+1) i s=match g i s with | some s'=>F m (i+1) s' | none=>stop)
  (hI:∀i s s',i<len->I i s->g i s=some s'->I (i+1) s')
  (he:∀m s,I len s->F (m+1) len s=fin s):∀(d i m:Nat) (s:σ),i+d=len->d<m->I i s->F m i s=match runL g d i s with | some s=>fin s | none=>stop:=by
 intro d
 induction d with
 |zero =>
  intro i m s hi hm h;obtain⟨m,rfl⟩:=qSx m;obtain rfl:i=len:=by omega
  exact he m s h
 |succ d ih =>
  intro i m s hi hm h;obtain⟨m,rfl⟩:=qSx m;rw[hs m i s (by omega) h];unfold runL;cases hg:g i s with
  |none=>rfl
  |some s'=>exact ih (i+1) m s' (by omega) (by omega) (hI i s s' (by omega) h hg)
theorem q21{F:Nat->Nat->Res}{len:Nat}{P:Nat->Bool}{fin stop:Res}
  (hs:∀m i,i<len->F (m+1) i=bif P i then F m (i+1)else stop)
  (he:∀m,F (m+1) len=fin):∀(d i m:Nat),i+d=len->d<m->F m i=bif(List.range' i d).all P then fin else stop:=by
 intro d
 induction d with
 |zero =>
  intro i m hi hm;obtain⟨m,rfl⟩:=qSx m;obtain rfl:i=len:=by omega
  exact he m
 |succ d ih =>
  intro i m hi hm;obtain⟨m,rfl⟩:=qSx m;rw[hs m i (by omega),ih (i+1) m (by omega) (by omega),BK,Bk];cases P i <;> rfl
theorem q68{σ:Type}{F:Nat->Nat->σ->Res}{len:Nat}{g:Nat->σ->σ}{fin:σ->Res}(I:Nat->σ->Prop)
  (hs:∀m i s,i<len->I i s->F (m+1) i s=F m (i+1) (g i s))
  (hI:∀i s,i<len->I i s->I (i+1) (g i s))
  (he:∀m s,I len s->F (m+1) len s=fin s):∀(d i m:Nat) (s:σ),i+d=len->d<m->I i s->F m i s=fin ((List.range' i d).foldl (λs j=>g j s) s)/\I len ((List.range' i d).foldl (λs j=>g j s) s):=by
 intro d
 induction d with
 |zero =>
  intro i m s hi hm h;obtain⟨m,rfl⟩:=qSx m;obtain rfl:i=len:=by omega
  exact⟨he m s h,h⟩
 |succ d ih =>
  intro i m s hi hm h;obtain⟨m,rfl⟩:=qSx m;rw[hs m i s (by omega) h,BK,Be];exact ih (i+1) m _ (by omega) (by omega) (hI i s (by omega) h)
theorem qck{P:Nat->Bool}{n:Nat}:(List.range' 0 n).all P=true↔∀i,i<n->P i=true:=by
 rw[Au];constructor
 ·intro h i hi;exact h i (by rw[BT];omega)
 ·intro h i hi;rw[BT]at hi;exact h i (by omega)
theorem qcq{P Q:Nat->Bool}{n:Nat}(h:∀i,i<n->P i=Q i):(List.range' 0 n).all P=(List.range' 0 n).all Q:=by
 rw[Bm,qck,qck];exact⟨λq i hi=>by rw[<- h i hi];exact q i hi,λq i hi=>by rw[h i hi];exact q i hi⟩
end
end Rf
