/- Texts of this work put together, their blanks and comments taken out: Thw, Res1, Pv, Bal, Lnk, Lup. -/
import Derived.Test.YtcpnpoagpnkblaaGreatDoorVME
import Derived.Laws.Sem
import Derived.Test.YtcpnpoagpnkblaaGreatDoorVMG
import Derived.Test.YtcpnpoagpnkblaaGreatDoorVMR
import Derived.Test.YtcpnpoagpnkblaaGreatDoorVMI
set_option linter.unusedVariables false
set_option linter.unusedSimpArgs false
section
/- What is computed of an object that is only read: it may be handed in as frozen. -/
namespace Rf
open Go
def flatTok:Tok->Bool
 |.int _ | .bool | .str | .lst _ | .own _=>true
 |_=>false
theorem FRep.vrep{w:World}{S S':Nat->Prop}{g:Gh}{sz:Nat}{xs:List FV}(h:VRep w S g sz xs)(hS:∀b,S b->S' b)(hg:g.nil=false->S' g.blk):FRep w S' (.list sz xs) (.slice g.base xs.length g.cap):=by
 obtain⟨h1,h2⟩:=h;by_cases hn:g.nil=true
 ·rw[if_pos hn]at h2;obtain⟨rfl,h3⟩:=h2;exact FRep.q2n.2 ⟨_,_,0,0,rfl,h1,λh=>absurd rfl h,by simp,λi j x c h=>by simp at h⟩
 ·rw[if_neg hn]at h2;obtain⟨vals,e,h3,h4,h5⟩:=h2;have hn':g.nil=false:=by simpa using hn
  exact FRep.q2n.2 ⟨_,_,g.blk,g.off,rfl,h1,λ_=>⟨by simp[Gh.base,hn'],hg hn'⟩,h5.mono (λ_ _=>rfl) hS rfl⟩
theorem qch{w:World}{S S':Nat->Prop}(hS:∀b,S b->S' b):∀ {T:List Tok} {V:List Value} {L:List FV} {acc G:GA},T.all flatTok=true->TRep w S T V L acc G->(∀b,q1w G b->S' b) ->
  All2 (FRep w S') L V/\L.length=T.length/\∀c,c∈L->c.flat=true
 |[],V,L,acc,G,_,h,_=>by
  obtain⟨rfl,rfl,rfl⟩:=h;exact⟨.nil,rfl,λc hc=>by simp at hc⟩
 |t::T,V,L,acc,G,ht,h,hG=>by
  simp only[List.all_cons,Bool.and_eq_true]at ht;obtain⟨h0,ht⟩:=ht;have leaf:(∃v V' x L',V=v::V'/\L=x::L'/\leafT t x/\FRep w S x v/\TRep w S T V' L' acc G)->All2 (FRep w S') L V/\L.length=(t::T).length/\∀c,c∈L->c.flat=true:=by
   rintro⟨v,V',x,L',rfl,rfl,h3,h4,h5⟩;obtain⟨k1,k2,k3⟩:=qch hS ht h5 hG;refine⟨.cons (h4.mono (λ_ _=>rfl) hS) k1,by simp[k2],λc hc=>?_⟩;rcases List.mem_cons.1 hc with rfl | hc
   ·exact q86 h3
   ·exact k3 c hc
  cases t with
  |int k=>exact leaf h
  |bool=>exact leaf h
  |str=>exact leaf h
  |lst sz=>exact leaf h
  |own sz =>
   obtain⟨g,xs,V',L',rfl,rfl,hv,hT⟩:=h;obtain⟨k1,k2,k3⟩:=qch hS ht hT hG;obtain⟨r,hr⟩:=hT.pre;have hat:G[acc.length]?=some (g,(some (sz,xs.length),none)):=by
    rw[hr,List.append_assoc,List.getElem?_append_right (Nat.le_refl _)];simp
   refine⟨.cons (FRep.vrep hv hS λhn=>hG _ ⟨acc.length,g,_,hat,hn,rfl⟩) k1,by simp[k2],λc hc=>?_⟩
   ·rcases List.mem_cons.1 hc with rfl | hc
    ·rfl
    ·exact k3 c hc
  |_=>simp[flatTok]at h0
theorem VRep.keep{w w':World}{S:Nat->Prop}{g:Gh}{sz:Nat}{xs:List FV}(h:VRep w S g sz xs)(hw:∀b,b<w.heap.size->w'.heap[b]?=w.heap[b]?)(hS:∀b,S b->b<w.heap.size):VRep w' S g sz xs:=by
 obtain⟨h1,h2⟩:=h;refine⟨h1,?_⟩;split
 ·rename_i hn;rw[if_pos hn]at h2;exact h2
 ·rename_i hn;rw[if_neg hn]at h2;obtain⟨vals,e,h3,h4,h5⟩:=h2;have hlt:g.blk<w.heap.size:=by
   rcases Nat.lt_or_ge g.blk w.heap.size with q | q
   ·exact q
   ·rw[Array.getElem?_eq_none q]at h3;cases h3
  exact⟨vals,e,by rw[hw _ hlt];exact h3,h4,h5.mono (λb hb=>hw b (hS b hb)) (λ_ h=>h) (hw _ hlt)⟩
theorem q9a{w w':World}{S:Nat->Prop}(hw:∀b,b<w.heap.size->w'.heap[b]?=w.heap[b]?)(hS:∀b,S b->b<w.heap.size){U:List Tok}{R:List Value}{L2:List FV} :
  ∀ {T:List Tok} {V:List Value} {L:List FV} {acc G:GA},T.all flatTok=true->TRep w S T V L acc G->TRep w' S U R L2 G G->TRep w' S (T++U) (V++R) (L++L2) acc G
 |[],V,L,acc,G,_,h,hU=>by
  obtain⟨rfl,rfl,rfl⟩:=h;exact hU
 |t::T,V,L,acc,G,ht,h,hU=>by
  simp only[List.all_cons,Bool.and_eq_true]at ht;obtain⟨h0,ht⟩:=ht;cases t with
  |int k=>obtain⟨v,V',x,L',rfl,rfl,h3,h4,h5⟩:=h;exact⟨v,_,x,_,rfl,rfl,h3,h4.mono (λb hb=>hw b (hS b hb)) (λ_ h=>h),q9a hw hS ht h5 hU⟩
  |bool=>obtain⟨v,V',x,L',rfl,rfl,h3,h4,h5⟩:=h;exact⟨v,_,x,_,rfl,rfl,h3,h4.mono (λb hb=>hw b (hS b hb)) (λ_ h=>h),q9a hw hS ht h5 hU⟩
  |str=>obtain⟨v,V',x,L',rfl,rfl,h3,h4,h5⟩:=h;exact⟨v,_,x,_,rfl,rfl,h3,h4.mono (λb hb=>hw b (hS b hb)) (λ_ h=>h),q9a hw hS ht h5 hU⟩
  |lst sz=>obtain⟨v,V',x,L',rfl,rfl,h3,h4,h5⟩:=h;exact⟨v,_,x,_,rfl,rfl,h3,h4.mono (λb hb=>hw b (hS b hb)) (λ_ h=>h),q9a hw hS ht h5 hU⟩
  |own sz =>
   obtain⟨g,xs,V',L',rfl,rfl,hv,hT⟩:=h;exact⟨g,xs,_,_,rfl,rfl,hv.keep hw hS,q9a hw hS ht hT hU⟩
  |_=>simp[flatTok]at h0
theorem thaw{P:Program}{f:FuncId}{k:Nat}{T:List Tok}{i j:FnI}(hi1:i.tin=[.fpt k])(hi2:i.tout=[.skip,.bool])(hj1:j.tin=.obj k::T)(hj2:j.tout=.obj k::(T++[.bool]))(hT:T.all flatTok=true)(hk:T.length=k)
  {L:List FV} {b:Bool} (h:q2j P f i [.ref k (.agg L)] [.bool b]):q2j P f j L (L++[.bool b]):=by
 intro w S V G hS htab hR hgo;rw[hj1]at hR;obtain⟨g,vals,e,V',rfl,hn,hb,hsz,hT0⟩:=hR;have hlenV:∀ {T:List Tok} {V:List Value} {L:List FV} {acc G:GA},T.all flatTok=true->TRep w S T V L acc G->V.length=T.length:=by
  intro T V L acc G ht h;obtain⟨k1,k2,_⟩:=qch (S':=λ_=>True) (λ_ _=>trivial) ht h (λ_ _=>trivial);rw[<- k1.len,k2]
 have hV':V'=[]:=by
  have:=hlenV hT hT0;simp at this;exact List.eq_nil_of_length_eq_zero (by omega)
 subst hV';rw[List.append_nil]at hT0;have hblk:g.blk<w.heap.size:=by
  rcases Nat.lt_or_ge g.blk w.heap.size with q | q
  ·exact q
  ·rw[Array.getElem?_eq_none q]at hb;cases hb
 have hgiv:∀c,q1w G c->c<w.heap.size:=λc ⟨i,g',sh,q1,q2,q3⟩=>by
  subst q3;exact(hgo.own i g' sh q1 q2).1
 have hg0:q1w G g.blk:=by
  obtain⟨r,hr⟩:=hT0.pre;have hat:G[0]?=some (g,(none,some (.n k))):=by rw[hr];rfl
  exact⟨0,g,_,hat,hn,rfl⟩
 let S1:Nat->Prop:=λc=>S c\/q1w G c
 have hS1:∀c,S1 c->c<w.heap.size:=λc hc=>hc.elim (hS c) (hgiv c);obtain⟨k1,k2,k3⟩:=qch (S':=S1) (λc h=>.inl h) hT hT0 (λc h=>.inr h);have hrep:FRep w S1 (.ref k (.agg L)) (.pointer (some ⟨g.blk,0,none⟩)):=by
  refine FRep.qdu.2 ⟨g.blk,0,rfl,.inr hg0,λy hy=>?_,λi j y c h1 h2=>?_⟩
  ·rw[List.mem_singleton.1 hy];exact⟨by simp[FV.cells,k2,hk],k3⟩
  ·cases i with
   |succ i=>simp at h1
   |zero =>
    simp only[List.getElem?_cons_zero,Option.some.injEq]at h1;subst h1;obtain⟨v,q1,q2⟩:=k1.get j c h2;refine⟨v,?_,q2⟩;rw[q45 hb,show 0+(0*k+j)=j by omega,<- Array.getElem?_toList];exact q1
 have htab1:Tabs w S1:=λg' cs hg'=>by
  obtain⟨q1,q2⟩:=htab g' cs hg';exact⟨.inl q1,q2⟩
 have:=h w S1 [.pointer (some ⟨g.blk,0,none⟩)] [] hS1 htab1 (by rw[hi1];exact⟨_,[],_,[],rfl,rfl,rfl,hrep,rfl,rfl,rfl⟩) ⟨λi g sh h=>by simp at h,λi j g g' sh sh' h=>by simp at h⟩;refine this.mono ?_;rintro e' w' ⟨S',fin',R,rfl,hU,hkp,_⟩;rw[hi2]at hU;obtain⟨v,V',hv1,hU⟩:=hU;simp only[List.singleton_append,List.cons.injEq]at hv1;obtain⟨_,rfl⟩:=hv1;obtain⟨v2,V2,x,L',rfl,hx,hl,hr,hU2⟩:=hU;cases hx;obtain⟨rfl,_,_⟩:=hU2;cases hr;have hw:∀c,c<w.heap.size->w'.heap[c]?=w.heap[c]?:=λc hc=>hkp.block c hc λ⟨i,g,sh,q,_⟩=>by simp at q
 refine⟨S,G,[.bool b],rfl,?_,⟨hkp.size,λc hc _=>hw c hc,hkp.os,hkp.tape,hkp.output,λc hc=>Nat.lt_of_lt_of_le (hS c hc) hkp.size,λ_ h=>h,λ_ h=>.inl h,htab,λc ⟨i,g,sh,q1,q2,q3⟩=>by subst q3;exact(hgo.own i g sh q1 q2).2.1⟩,?_⟩
 ·rw[hj2];refine⟨g,vals,e,[.bool b],rfl,hn,by rw[hw _ hblk];exact hb,hsz,?_⟩;exact q9a hw hS hT hT0 ⟨_,[],_,[],rfl,rfl,trivial,.bool b,rfl,rfl,rfl⟩
 ·exact⟨λi g sh h1 h2=>let q:=hgo.own i g sh h1 h2;⟨Nat.lt_of_lt_of_le q.1 hkp.size,q.2.1,.inl ⟨i,g,sh,h1,h2,rfl⟩⟩,hgo.inj⟩
end Rf
end
section
/- Orders that may be: names that rise are different ones; going from parent to parent by either rule is the same: plain law. -/
namespace Rf
open Go
structure BlkV where
 who:ByteArray
 seq:Int
 zone:Int
 buy:Bool
 qo:Int
 qty:List Int
 parent:Int
 group:Int
 deriving Inhabited
def q97(a b:BlkV):Bool:=decide (b.who=a.who)&&(b.seq==a.parent)
def pW(bs:List BlkV):Nat->Nat->Bool
 |0,_=>false
 |k+1,i=>match bs[i]? with
  |none=>false
  |some b=>if b.parent<=0 then true else match bs.findIdx? (q97 b)with
   |none=>false
   |some j=>if j=i then false else pW bs k j
def nmLt(a:ByteArray)(m:Int)(b:ByteArray)(n:Int):Prop:=a.toList<b.toList\/a=b/\m<n
theorem nmLt_tr{a b c:ByteArray}{m n k:Int}(h:nmLt a m b n)(h':nmLt b n c k):nmLt a m c k:=by
 rcases h with h | ⟨rfl,h⟩
 ·rcases h' with h' | ⟨rfl,h'⟩
  ·exact Or.inl (List.lt_trans h h')
  ·exact Or.inl h
 ·rcases h' with h' | ⟨rfl,h'⟩
  ·exact Or.inl h'
  ·exact Or.inr ⟨rfl,by omega⟩
def Rise{α:Type}(who:α->ByteArray)(seq:α->Int)(l:List α):Prop:=∀(i:Nat) (a b:α),l[i]?=some a->l[i+1]?=some b->nmLt (who a) (seq a) (who b) (seq b)
theorem Rise.lt{α:Type}{who:α->ByteArray}{seq:α->Int}{l:List α}(h:Rise who seq l):∀(d i:Nat) (a b:α),l[i]?=some a->l[i+d+1]?=some b->nmLt (who a) (seq a) (who b) (seq b)
 |0,i,a,b,ha,hb=>h i a b ha hb
 |d+1,i,a,b,ha,hb=>by
  have hlt:i+d+1<l.length:=by have:=(List.getElem?_eq_some_iff.1 hb).1;omega
  have h1:=h.lt d i a l[i+d+1] ha (List.getElem?_eq_getElem hlt);have h2:=h (i+d+1) l[i+d+1] b (List.getElem?_eq_getElem hlt) hb;exact nmLt_tr h1 h2
end Rf
end
section
/- A result of a grid and of orders, in plain words: what is wrong with it. -/
namespace Rf
open Go
abbrev Txt:=List UInt8
structure StpV where
 who:ByteArray
 seq:Int
 zone:Int
 hour:Int
 buy:Bool
 qty:Int
 qo:Int
 deriving Inhabited
structure q1a where
 src:Int
 dst:Int
 cap:Int
 deriving Inhabited
structure q11 where
 qm:Int
 qk:Int
 lines:List q1a
 low:Int
 high:Int
 deriving Inhabited
structure ResV where
 accept:List Bool
 x:List Txt
 f:List (List Txt)
 p:List (List Txt)
 q1g:Txt
 upper:Txt
 q8c:Bool
 nodes:Int
 deriving Inhabited
def q15(n lo hi:Int):Bool:=decide (lo<=n)&&decide (n<=hi)
def q3q(g:q11)(l:q1a):Bool:=q15 l.src 0 (g.qm-1)&&q15 l.dst 0 (g.qm-1)&&l.src !=l.dst&&q15 l.cap 0 1000
def q3x(g:q11):Bool:=q15 g.qm 1 3&&q15 g.qk 1 3&&decide (g.lines.length<=3)&&g.lines.all (q3q g)&&q15 g.low (-100000) g.high&&decide (g.high<=100000)
def q4f(g:q11)(s:StpV):Bool:=q15 s.zone 0 (g.qm-1)&&q15 s.hour 0 (g.qk-1)&&q15 s.qty 1 1000&&q15 s.qo g.low g.high
def q67(g:q11)(b:BlkV):Bool:=q15 b.zone 0 (g.qm-1)&&q15 b.qo g.low g.high&&decide ((b.qty.length:Int)=g.qk)&&b.qty.all (λq=>q15 q 0 1000)&&b.qty.any (λq=>decide (0<q))
def nmB(a:ByteArray)(m:Int)(b:ByteArray)(n:Int):Bool:=Op.bytesLess a.toList b.toList||a.toList==b.toList&&decide (m<n)
def q83(ss:List StpV):Bool:=(List.range' 1 (ss.length-1)).all λi=>match ss[i-1]?,ss[i]? with | some a,some b=>nmB a.who a.seq b.who b.seq | _,_=>true
def q84(bs:List BlkV):Bool:=(List.range' 1 (bs.length-1)).all λi=>match bs[i-1]?,bs[i]? with | some a,some b=>nmB a.who a.seq b.who b.seq | _,_=>true
def q2h(g:q11)(ss:List StpV)(bs:List BlkV):Bool :=
 q3x g&&decide (ss.length<=32)&&decide (bs.length<=12)&&ss.all (q4f g)&&bs.all (q67 g)&&q83 ss&&q84 bs&&(List.range' 0 bs.length).all (pW bs (bs.length+1))
noncomputable def rd(t:Txt):Rat:=(pr t).getD 0
noncomputable def ResV.xAt(r:ResV)(i:Nat):Rat:=rd (r.x.getD i [])
noncomputable def ResV.fAt(r:ResV)(h i:Nat):Rat:=rd ((r.f.getD h []).getD i [])
noncomputable def ResV.pAt(r:ResV)(h z:Nat):Rat:=rd ((r.p.getD h []).getD z [])
def q6f(g:q11)(ss:List StpV)(bs:List BlkV)(r:ResV):Bool :=
 q2h g ss bs&&decide (r.accept.length=bs.length)&&decide (r.x.length=ss.length)&&decide ((r.f.length:Int)=g.qk)&&decide ((r.p.length:Int)=g.qk)&&decide (0<=r.nodes) &&
  (List.range' 0 g.qk.toNat).all λh=>decide ((r.f.getD h []).length=g.lines.length)&&decide (((r.p.getD h []).length:Int)=g.qm)
noncomputable def isNum(t:Txt):Bool:=(pr t).isSome
noncomputable def q20(r:ResV):Bool:=r.x.all isNum&&isNum r.q1g&&isNum r.upper&&r.f.all (·.all isNum)&&r.p.all (·.all isNum)
def inR(q:Rat)(lo hi:Int):Bool:=decide ((lo:Rat)<=q)&&decide (q<=(hi:Rat))
noncomputable def q6q(g:q11)(ss:List StpV)(r:ResV):Bool :=
 ((List.range' 0 ss.length).all λi=>inR (r.xAt i) 0 (ss.getD i default).qty) &&
  (List.range' 0 g.qk.toNat).all λh=>((List.range' 0 g.lines.length).all λi=>inR (r.fAt h i) (-(g.lines.getD i default).cap) (g.lines.getD i default).cap)&&(List.range' 0 g.qm.toNat).all λz=>inR (r.pAt h z) g.low g.high
def netAt(bs:List BlkV)(ac:List Bool)(h z:Nat):Nat->Int
 |0=>0
 |n+1=>netAt bs ac h z n+match bs[n]?,ac[n]? with
  |some b,some true=>if b.zone=(z:Int)/\h<b.qty.length then(if b.buy then -(b.qty.getD h 0)else b.qty.getD h 0)else 0
  |_,_=>0
def netV(bs:List BlkV)(ac:List Bool)(h z:Nat):Int:=netAt bs ac h z (min bs.length ac.length)
noncomputable def stepA(ss:List StpV)(r:ResV)(h z:Nat)(n:Rat)(i:Nat):Rat :=
 match ss[i]? with
 |some s=>if s.hour=(h:Int)/\s.zone=(z:Int)then(if s.buy then n-r.xAt i else n+r.xAt i)else n
 |none=>n
noncomputable def q69(ss:List StpV)(bs:List BlkV)(r:ResV)(h z:Nat):Rat:=(List.range' 0 ss.length).foldl (stepA ss r h z) ((netV bs r.accept h z:Int):Rat)
noncomputable def lineA(ls:List q1a)(r:ResV)(h z:Nat)(n:Rat)(i:Nat):Rat :=
 match ls[i]? with
 |some l=>let a:=if l.src=(z:Int)then n+r.fAt h i else n
  if l.dst=(z:Int)then a-r.fAt h i else a
 |none=>n
noncomputable def expV(ls:List q1a)(r:ResV)(h z:Nat):Rat:=(List.range' 0 ls.length).foldl (lineA ls r h z) 0
noncomputable def balV(g:q11)(ss:List StpV)(bs:List BlkV)(r:ResV):Bool :=
 (List.range' 0 g.qk.toNat).all λh=>(List.range' 0 g.qm.toNat).all λz=>decide (q69 ss bs r h z=expV g.lines r h z)
noncomputable def q73(ss:List StpV)(r:ResV)(i:Nat):Bool :=
 match ss[i]? with
 |some s=>let p:=r.pAt s.hour.toNat s.zone.toNat
  !(decide (0<r.xAt i)&&(bif s.buy then decide ((s.qo:Rat)<p)else decide (p<(s.qo:Rat))))&&!(decide (r.xAt i<(s.qty:Rat))&&(bif s.buy then decide (p<(s.qo:Rat))else decide ((s.qo:Rat)<p)))
 |none=>true
noncomputable def q7t(ss:List StpV)(r:ResV):Bool:=(List.range' 0 ss.length).all (q73 ss r)
noncomputable def qaf(ls:List q1a)(r:ResV)(h i:Nat):Bool :=
 match ls[i]? with
 |some l=>let a:=r.pAt h l.src.toNat
  let b:=r.pAt h l.dst.toNat
  !(decide (((-l.cap:Int):Rat)<r.fAt h i)&&decide (b<a))&&!(decide (r.fAt h i<(l.cap:Rat))&&decide (a<b))
 |none=>true
noncomputable def q8r(g:q11)(r:ResV):Bool:=(List.range' 0 g.qk.toNat).all λh=>(List.range' 0 g.lines.length).all (qaf g.lines r h)
def AccV(bs:List BlkV)(ac:List Bool)(i:Nat)(b:BlkV):Prop:=bs[i]?=some b/\ac[i]?=some true
def LinkAt(bs:List BlkV)(ac:List Bool)(i:Nat):Prop :=
 ∀b,AccV bs ac i b->(b.parent<=0\/∃j c,AccV bs ac j c/\c.who=b.who/\c.seq=b.parent)/\∀j c,j≠i->AccV bs ac j c->c.who=b.who->0<b.group->c.group≠b.group
open Classical in
noncomputable def q3s(bs:List BlkV)(ac:List Bool):Bool:=decide (bs.length=ac.length)&&decide (∀i,LinkAt bs ac i)
noncomputable def gainV(b:BlkV)(r:ResV):Rat:=(List.range' 0 b.qty.length).foldl (λn h=>n+(r.pAt h b.zone.toNat-(b.qo:Rat))*((b.qty.getD h 0:Int):Rat)) 0
noncomputable def q98(b:BlkV)(r:ResV):Rat:=bif b.buy then -(gainV b r)else gainV b r
noncomputable def q8s(bs:List BlkV)(r:ResV):Bool:=(List.range' 0 bs.length).all λi=>match bs[i]?,r.accept[i]? with
 |some b,some true=>decide (0<=q98 b r)
 |_,_=>true
def q33(buy:Bool)(p:Int):Int:=bif buy then p else -p
noncomputable def welS(ss:List StpV)(r:ResV):Rat:=(List.range' 0 ss.length).foldl (λn i=>match ss[i]? with | some s=>n+r.xAt i*((q33 s.buy s.qo:Int):Rat) | none=>n) 0
noncomputable def welB(bs:List BlkV)(r:ResV)(n0:Rat):Rat:=(List.range' 0 (min r.accept.length bs.length)).foldl (λn i=>match bs[i]?,r.accept[i]? with
 |some b,some true=>b.qty.foldl (λ(n:Rat) (q:Int)=>n+(q:Rat)*((q33 b.buy b.qo:Int):Rat)) n
 |_,_=>n) n0
noncomputable def welV(ss:List StpV)(bs:List BlkV)(r:ResV):Rat:=welB bs r (welS ss r)
noncomputable def q8t(ss:List StpV)(bs:List BlkV)(r:ResV):Bool:=decide (qx (welV ss bs r)=r.q1g)
noncomputable def upV(r:ResV):Bool:=decide (rd r.q1g<=rd r.upper)&&(!r.q8c||decide (r.upper=r.q1g))
noncomputable def chkV(g:q11)(ss:List StpV)(bs:List BlkV)(r:ResV):Int :=
 if q6f g ss bs r=false then 1 else if q20 r=false then 2 else if q6q g ss r=false then 3 else if balV g ss bs r=false then 4 else if q7t ss r=false then 5 else if q8r g r=false then 6
 else if q3s bs r.accept=false then 7 else if q8s bs r=false then 8 else if q8t ss bs r=false then 9 else if upV r=false then 10 else 0
end Rf
end
section
/- The balance: a list that is written step by step, line by line, is in the end what each zone comes to; comparing fractions by their parts: plain law. -/
namespace Rf
open Go
theorem q89{α:Type}(L:List α)(i j:Nat)(v d:α)(hi:i<L.length):(L.set i v).getD j d=if i=j then v else L.getD j d:=by
 rw[List.getD_eq_getElem?_getD,List.getD_eq_getElem?_getD,List.getElem?_set];by_cases h:i=j
 ·subst h;simp[hi]
 ·simp[h]
section
variable {ss:List StpV} {ls:List q1a} {r:ResV} {h:Nat}
noncomputable def stepP(ss:List StpV)(r:ResV)(h:Nat)(L:List Rat)(i:Nat):List Rat:=match ss[i]? with
 |some s=>if s.hour=(h:Int)then(if s.buy then L.set s.zone.toNat (L.getD s.zone.toNat 0-r.xAt i)else L.set s.zone.toNat (L.getD s.zone.toNat 0+r.xAt i))else L
 |none=>L
noncomputable def lineP(ls:List q1a)(r:ResV)(h:Nat)(L:List Rat)(i:Nat):List Rat:=match ls[i]? with
 |some l=>(L.set l.src.toNat (L.getD l.src.toNat 0-r.fAt h i)).set l.dst.toNat ((L.set l.src.toNat (L.getD l.src.toNat 0-r.fAt h i)).getD l.dst.toNat 0+r.fAt h i)
 |none=>L
theorem qix(L:List Rat)(i:Nat):(stepP ss r h L i).length=L.length:=by
 unfold stepP;split
 ·split
  ·split <;> simp
  ·rfl
 ·rfl
theorem qiw(L:List Rat)(i:Nat):(lineP ls r h L i).length=L.length:=by
 unfold lineP;split
 ·simp
 ·rfl
theorem stepP_at{Z:Nat}(hz:∀s,s∈ss->0<=s.zone/\s.zone<(Z:Int)){L:List Rat}(hL:L.length=Z)(i:Nat){z:Nat}(hzl:z<Z):(stepP ss r h L i).getD z 0=stepA ss r h z (L.getD z 0) i:=by
 unfold stepP stepA;cases hs:ss[i]? with
 |none=>rfl
 |some s =>
  obtain⟨h0,h1⟩:=hz s (List.mem_of_getElem? hs);have hlt:s.zone.toNat<L.length:=by omega
  have he:(s.zone.toNat=z)↔(s.zone=(z:Int)):=by omega
  simp only;by_cases hh:s.hour=(h:Int)
  ·rw[if_pos hh];by_cases hzz:s.zone=(z:Int)
   ·have hb:s.hour=(h:Int)/\s.zone=(z:Int):=⟨hh,hzz⟩;rw[if_pos hb];have:=he.2 hzz;cases s.buy
    ·simp only[Bool.false_eq_true,if_false];rw[q89 _ _ _ _ _ hlt,if_pos this,this]
    ·simp only[if_true];rw[q89 _ _ _ _ _ hlt,if_pos this,this]
   ·have hb:¬ (s.hour=(h:Int)/\s.zone=(z:Int)):=λq=>hzz q.2;rw[if_neg hb];have hne:s.zone.toNat≠z:=λq=>hzz (he.1 q);cases s.buy
    ·simp only[Bool.false_eq_true,if_false];rw[q89 _ _ _ _ _ hlt,if_neg hne]
    ·simp only[if_true];rw[q89 _ _ _ _ _ hlt,if_neg hne]
  ·have hb:¬ (s.hour=(h:Int)/\s.zone=(z:Int)):=λq=>hh q.1;rw[if_neg hh,if_neg hb]
theorem lineP_at{Z:Nat}(hz:∀l,l∈ls->0<=l.src/\l.src<(Z:Int)/\0<=l.dst/\l.dst<(Z:Int)){L:List Rat}(hL:L.length=Z)(i:Nat){z:Nat}(hzl:z<Z){a b:Rat}(hab:L.getD z 0=a-b) :
  (lineP ls r h L i).getD z 0=a-lineA ls r h z b i:=by
 unfold lineP lineA;cases hs:ls[i]? with
 |none=>exact hab
 |some l =>
  obtain⟨h0,h1,h2,h3⟩:=hz l (List.mem_of_getElem? hs);have hlt:l.src.toNat<L.length:=by omega
  have hlt2:l.dst.toNat<(L.set l.src.toNat (L.getD l.src.toNat 0-r.fAt h i)).length:=by rw[List.length_set];omega
  have he:(l.src.toNat=z)↔(l.src=(z:Int)):=by omega
  have he2:(l.dst.toNat=z)↔(l.dst=(z:Int)):=by omega
  simp only;rw[q89 _ _ _ _ _ hlt2];by_cases hd:l.dst=(z:Int)
  ·rw[if_pos (he2.2 hd),if_pos hd,he2.2 hd,q89 _ _ _ _ _ hlt];by_cases hsr:l.src=(z:Int)
   ·rw[if_pos (he.2 hsr),if_pos hsr,he.2 hsr,hab]
    grind
   ·have hb:¬ l.src.toNat=z:=λq=>hsr (he.1 q);rw[if_neg hb,if_neg hsr,hab]
    grind
  ·have hb2:¬ l.dst.toNat=z:=λq=>hd (he2.1 q);rw[if_neg hb2,if_neg hd,q89 _ _ _ _ _ hlt];by_cases hsr:l.src=(z:Int)
   ·rw[if_pos (he.2 hsr),if_pos hsr,he.2 hsr,hab]
    grind
   ·have hb:¬ l.src.toNat=z:=λq=>hsr (he.1 q);rw[if_neg hb,if_neg hsr,hab]
theorem qjm{Z:Nat}(hz:∀s,s∈ss->0<=s.zone/\s.zone<(Z:Int)){z:Nat}(hzl:z<Z):∀(l:List Nat) (L:List Rat),L.length=Z->(l.foldl (stepP ss r h) L).length=Z/\(l.foldl (stepP ss r h) L).getD z 0=l.foldl (stepA ss r h z) (L.getD z 0)
 |[],L,hL=>⟨hL,rfl⟩
 |i::l,L,hL=>by
  rw[List.foldl_cons,List.foldl_cons,<- stepP_at hz hL i hzl];exact qjm hz hzl l _ ((qix L i).trans hL)
theorem qjn{Z:Nat}(hz:∀l,l∈ls->0<=l.src/\l.src<(Z:Int)/\0<=l.dst/\l.dst<(Z:Int)){z:Nat}(hzl:z<Z){a:Rat}:∀(l:List Nat) (L:List Rat) (b:Rat),L.length=Z->L.getD z 0=a-b->(l.foldl (lineP ls r h) L).getD z 0=a-l.foldl (lineA ls r h z) b
 |[],L,b,hL,hab=>hab
 |i::l,L,b,hL,hab=>by
  rw[List.foldl_cons,List.foldl_cons];exact qjn hz hzl l _ _ ((qiw L i).trans hL) (lineP_at hz hL i hzl hab)
theorem left_at{Z:Nat}{bs:List BlkV}(hs:∀s,s∈ss->0<=s.zone/\s.zone<(Z:Int))(hl:∀l,l∈ls->0<=l.src/\l.src<(Z:Int)/\0<=l.dst/\l.dst<(Z:Int)){L:List Rat}(hL:L.length=Z){z:Nat}(hzl:z<Z)
  (h0:L.getD z 0=((netV bs r.accept h z:Int):Rat)):((List.range' 0 ls.length).foldl (lineP ls r h) ((List.range' 0 ss.length).foldl (stepP ss r h) L)).getD z 0=q69 ss bs r h z-expV ls r h z:=by
 obtain⟨q1,q2⟩:=qjm (r:=r) (h:=h) hs hzl (List.range' 0 ss.length) L hL;refine qjn hl hzl _ _ 0 q1 ?_;rw[q2,h0];unfold q69
 grind
end
theorem cmp_lt{q r:Rat}:(q1n (q.num*r.den) (r.num*q.den)<0)↔q<r:=by
 rw[Rat.lt_iff];unfold q1n;split
 ·rename_i h;exact⟨λ_=>h,λ_=>by omega⟩
 ·rename_i h;constructor
  ·intro q;split at q <;> omega
  ·intro q;exact absurd q h
theorem cmp_gt{q r:Rat}:(0<q1n (q.num*r.den) (r.num*q.den))↔r<q:=by
 rw[Rat.lt_iff];unfold q1n;split
 ·rename_i h;constructor
  ·intro q;omega
  ·intro q;omega
 ·split
  ·rename_i h h';exact⟨λ_=>h',λ_=>by omega⟩
  ·rename_i h h';constructor
   ·intro q;omega
   ·intro q;exact absurd q h'
theorem cmp_le{q r:Rat}:(q1n (q.num*r.den) (r.num*q.den)<=0)↔q<=r:=by
 rw[<- Rat.not_lt,<- cmp_gt];omega
theorem cmp_ge{q r:Rat}:(0<=q1n (q.num*r.den) (r.num*q.den))↔r<=q:=by
 rw[<- Rat.not_lt,<- cmp_lt];omega
theorem cmp_eq{q r:Rat}:(q1n (q.num*r.den) (r.num*q.den)=0)↔q=r:=by
 constructor
 ·intro h;exact Rat.le_antisymm (cmp_le.1 (by omega)) (cmp_ge.1 (by omega))
 ·intro h;subst h;unfold q1n;rw[if_neg (by omega),if_neg (by omega)]
theorem sgn_neg{q:Rat}:(q.num.sign<0)↔q<0:=by
 rw[Int.sign_neg_iff];constructor
 ·intro h;rw[<- Rat.not_le,<- Rat.num_nonneg];omega
 ·intro h;rw[<- Rat.not_le,<- Rat.num_nonneg]at h;omega
theorem sgn_pos{q:Rat}:(0<q.num.sign)↔0<q:=by
 rw[Int.sign_pos_iff];constructor
 ·intro h;have h1:0<=q:=Rat.num_nonneg.1 (by omega);have h2:q≠0:=λe=>by rw[e]at h;exact absurd h (by decide)
  exact Rat.not_le.1 λh3=>h2 (Rat.le_antisymm h3 h1)
 ·intro h;have h1:0<=q.num:=Rat.num_nonneg.2 (Rat.le_of_lt h);have h2:q.num≠0:=λe=>by rw[Rat.num_eq_zero.1 e]at h;exact absurd h (by decide)
  omega
theorem sgn_zero{q:Rat}:(q.num.sign=0)↔q=0:=by
 rw[Int.sign_eq_zero_iff_zero];exact Rat.num_eq_zero
theorem qpj{a b:Rat}:a-b=0↔a=b:=by
 constructor
 ·intro h;have:a=(a-b)+b:=by grind
  rw[this,h]
  grind
 ·intro h;subst h
  grind
end Rf
end
section
/- Blocks that may be accepted together: both answers are one. -/
namespace Rf
open Go
structure Blk where
 who:ByteArray
 seq:Int
 zone:Int
 buy:Bool
 qo:Int
 qty:List FV
 parent:Int
 group:Int
def Blk.fv(b:Blk):FV:=.agg [.str b.who,.int .i64 b.seq,.int .i64 b.zone,.bool b.buy,.int .i64 b.qo,.list 1 b.qty,.int .i64 b.parent,.int .i64 b.group]
section
variable {bs:List Blk} {ac:List Bool}
def Acc(bs:List Blk)(ac:List Bool)(i:Nat)(b:Blk):Prop:=bs[i]?=some b/\ac[i]?=some true
def cnt(bs:List Blk)(ac:List Bool)(p:Blk->Bool)(n:Nat):Nat:=((bs.zip ac).take n).countP λx=>x.2&&p x.1
theorem cnt_le(p:Blk->Bool)(n:Nat):cnt bs ac p n<=n:=by
 unfold cnt;exact Nat.le_trans List.countP_le_length (by simp;omega)
theorem cnt_succ{p:Blk->Bool}{i:Nat}{b:Blk}{a:Bool}(hb:bs[i]?=some b)(ha:ac[i]?=some a):cnt bs ac p (i+1)=cnt bs ac p i+(if a&&p b then 1 else 0):=by
 unfold cnt;rw[List.take_add_one];have:(bs.zip ac)[i]?=some (b,a):=List.getElem?_zip_eq_some.2 ⟨hb,ha⟩;rw[this,List.countP_append];simp[List.countP_cons]
theorem qgd{p:Blk->Bool}{n:Nat}:cnt bs ac p n=0↔∀i b,i<n->Acc bs ac i b->p b=false:=by
 unfold cnt;rw[List.countP_eq_zero];constructor
 ·intro h i b hi ⟨h1,h2⟩;have hz:(bs.zip ac)[i]?=some (b,true):=List.getElem?_zip_eq_some.2 ⟨h1,h2⟩;have:(b,true)∈(bs.zip ac).take n:=List.mem_of_getElem? (i:=i) (by rw[List.getElem?_take_of_lt hi];exact hz);have:=h _ this;simpa using this
 ·intro h x hx;obtain⟨i,hi⟩:=List.mem_iff_getElem?.1 hx;rw[List.getElem?_take]at hi;split at hi
  ·rename_i hlt;obtain⟨q1,q2⟩:=List.getElem?_zip_eq_some.1 hi;cases hb:x.2 with
   |false=>simp
   |true=>rw[hb]at q2;simp[h i x.1 hlt ⟨q1,q2⟩]
  ·cases hi
theorem qge{p:Blk->Bool}{n i:Nat}{b:Blk}(hi:i<n)(ha:Acc bs ac i b)(hp:p b=true):1<cnt bs ac p n↔∃j c,j<n/\j≠i/\Acc bs ac j c/\p c=true:=by
 have hz:(bs.zip ac)[i]?=some (b,true):=List.getElem?_zip_eq_some.2 ⟨ha.1,ha.2⟩;have hlt:i<(bs.zip ac).length:=(List.getElem?_eq_some_iff.1 hz).1;have hsplit:(bs.zip ac).take n=(bs.zip ac).take i++(b,true)::((bs.zip ac).take n).drop (i+1):=by
  have h1:((bs.zip ac).take n).take i=(bs.zip ac).take i:=by rw[List.take_take];congr 1;omega
  have h2:((bs.zip ac).take n)[i]?=some (b,true):=by rw[List.getElem?_take_of_lt hi];exact hz
  rw[<- h1]
  conv=>lhs;rw[<- List.take_append_drop i ((bs.zip ac).take n)]
  congr 1;have hlt2:=(List.getElem?_eq_some_iff.1 h2).1;rw[List.drop_eq_getElem_cons hlt2];congr 1;exact(List.getElem?_eq_some_iff.1 h2).2
 unfold cnt;rw[hsplit,List.countP_append,List.countP_cons];simp only[Bool.true_and,hp,if_true];constructor
 ·intro h;have:0<((bs.zip ac).take i).countP (λx=>x.2&&p x.1)\/0<(((bs.zip ac).take n).drop (i+1)).countP (λx=>x.2&&p x.1):=by omega
  rcases this with h | h
  ·obtain⟨x,hx,hpx⟩:=List.countP_pos_iff.1 h;obtain⟨j,hj⟩:=List.mem_iff_getElem?.1 hx;rw[List.getElem?_take]at hj;split at hj
   ·rename_i hji;obtain⟨q1,q2⟩:=List.getElem?_zip_eq_some.1 hj;simp only[Bool.and_eq_true]at hpx;exact⟨j,x.1,by omega,by omega,⟨q1,by rw[q2,hpx.1]⟩,hpx.2⟩
   ·cases hj
  ·obtain⟨x,hx,hpx⟩:=List.countP_pos_iff.1 h;obtain⟨j,hj⟩:=List.mem_iff_getElem?.1 hx;rw[List.getElem?_drop,List.getElem?_take]at hj;split at hj
   ·rename_i hji;obtain⟨q1,q2⟩:=List.getElem?_zip_eq_some.1 hj;simp only[Bool.and_eq_true]at hpx;exact⟨i+1+j,x.1,by omega,by omega,⟨q1,by rw[q2,hpx.1]⟩,hpx.2⟩
   ·cases hj
 ·rintro⟨j,c,hj,hne,⟨q1,q2⟩,hpc⟩;have hzj:(bs.zip ac)[j]?=some (c,true):=List.getElem?_zip_eq_some.2 ⟨q1,q2⟩;rcases Nat.lt_or_gt_of_ne hne with h | h
  ·have:0<((bs.zip ac).take i).countP (λx=>x.2&&p x.1):=List.countP_pos_iff.2 ⟨(c,true),List.mem_of_getElem? (i:=j) (by rw[List.getElem?_take_of_lt h];exact hzj),by simp[hpc]⟩;omega
  ·have:0<(((bs.zip ac).take n).drop (i+1)).countP (λx=>x.2&&p x.1) :=
    List.countP_pos_iff.2 ⟨(c,true),List.mem_of_getElem? (i:=j-(i+1)) (by rw[List.getElem?_drop,show i+1+(j-(i+1))=j by omega,List.getElem?_take_of_lt hj];exact hzj),by simp[hpc]⟩
   omega
def OkAt(bs:List Blk)(ac:List Bool)(i:Nat):Prop :=
 ∀b,Acc bs ac i b->(b.parent<=0\/∃j c,Acc bs ac j c/\c.who=b.who/\c.seq=b.parent)/\∀j c,j≠i->Acc bs ac j c->c.who=b.who->0<b.group->c.group≠b.group
def gk(w:ByteArray)(g:Int):FV:=.agg [.str w,.int .i64 g]
theorem keq_gk(w v:ByteArray)(g h:Int):keq (gk w g) (gk v h)=(decide (w=v)&&(g==h)):=by
 simp[keq,gk,FV.cells,keqs,keq1,toList_eq]
def q6m(e:List FV)(f:ByteArray->Int->Nat):Prop:=∀w g,mgetD e (gk w g) (.int .i64 0)=.int .i64 (f w g)
def isG(w:ByteArray)(g:Int)(b:Blk):Bool:=decide (b.who=w)&&(b.group==g)
def isN(w:ByteArray)(g:Int)(b:Blk):Bool:=decide (b.who=w)&&(b.seq==g)
theorem qgf{e:List FV}{x:Int}{f f':ByteArray->Int->Nat}{w:ByteArray}{g:Int}(h:q6m e f)(hf:∀v k,f' v k=f v k+(if(decide (w=v)&&(g==k))=true then 1 else 0)) :
  q6m (mput e (gk w g) (.int .i64 ((f w g+1:Nat):Int)) x) f':=λv k=>by
 rw[qgg,keq_gk];have h1:=hf v k;cases hk:(decide (v=w)&&(k==g))with
 |true =>
  simp only[Bool.and_eq_true,decide_eq_true_eq,beq_iff_eq]at hk;obtain⟨rfl,rfl⟩:=hk;simp at h1;rw[cond_true,h1]
 |false =>
  have:(decide (w=v)&&(g==k))=false:=by
   rw[<- hk,Bool.eq_iff_iff];simp only[Bool.and_eq_true,decide_eq_true_eq,beq_iff_eq];constructor <;> (rintro⟨rfl,rfl⟩;exact⟨rfl,rfl⟩)
  rw[this]at h1;simp at h1;rw[cond_false,h1];exact h v k
theorem l5_run(hl:ac.length=bs.length)(hb:bs.length<=140737488351232)(n:Nat):∀(d i m:Nat) (e2:List FV) (x2:Int) (e3:List FV) (x3:Int),i+d=bs.length->d<m->MWf e2 x2->MWf e3 x3->q6m e2 (λw g=>cnt bs ac (isG w g) i) ->
  q6m e3 (λw g=>cnt bs ac (isN w g) i)->∃f2 y2 f3 y3,q6m f2 (λw g=>cnt bs ac (isG w g) bs.length)/\q6m f3 (λw g=>cnt bs ac (isN w g) bs.length) /\
   q28.l5 n [] m [.list 8 (bs.map Blk.fv),.list 1 (ac.map .bool),.list 3 e2,.int .i64 x2,.list 3 e3,.int .i64 x3,.list 8 (bs.map Blk.fv),.int .i64 (bs.length:Int),.int .i64 (i:Int)] =
    q28.l12 n [] n [.list 1 (ac.map .bool),.list 3 f2,.int .i64 y2,.list 3 f3,.int .i64 y3,.list 8 (bs.map Blk.fv),.int .i64 (bs.length:Int),.int .i64 0]
 |0,i,m+1,e2,x2,e3,x3,hi,hm,w2,w3,c2,c3=>by
  have:i=bs.length:=by omega
  subst this;refine⟨e2,x2,e3,x3,c2,c3,?_⟩;rw[q28.q1x];simp
 |d+1,i,m+1,e2,x2,e3,x3,hi,hm,w2,w3,c2,c3=>by
  have hib:i<bs.length:=by omega
  have hia:i<ac.length:=by omega
  have hbi:bs[i]?=some bs[i]:=List.getElem?_eq_getElem hib;have hai:ac[i]?=some ac[i]:=List.getElem?_eq_getElem hia;rw[q28.q1x];have hlt:decide ((i:Int)<(bs.length:Int))=true:=by simpa using hib
  have hix:ix (i:Int) (bs.map Blk.fv).length=some i:=qc (by simpa using hib);have hix2:ix (i:Int) (ac.map FV.bool).length=some i:=qc (by simpa using hia);simp only[hlt,cond_true,hix,hix2,Option.bind_some,q21,hbi,hai,Blk.fv,FV.cells,List.getElem?_cons_zero,List.getElem?_cons_succ,qg,qb,qa,q9];have hs:=λp=>cnt_succ (p:=p) hbi hai;rw[qi (by omega)];cases ha:ac[i]with
  |false =>
   simp only[cond_false];have hs':∀p,cnt bs ac p (i+1)=cnt bs ac p i:=λp=>by have:=hs p;rw[ha]at this;simpa using this
   refine l5_run hl hb n d (i+1) m e2 x2 e3 x3 (by omega) (by omega) w2 w3 (λw g=>(c2 w g).trans (by simp only[hs'])) (λw g=>(c3 w g).trans (by simp only[hs']))
  |true =>
   simp only[cond_true];have hs':∀p,cnt bs ac p (i+1)=cnt bs ac p i+if p bs[i]then 1 else 0:=λp=>by have:=hs p;rw[ha]at this;simpa using this
   rw[show(FV.agg [.str bs[i].who,.int .i64 bs[i].group])=gk bs[i].who bs[i].group from rfl,show(FV.agg [.str bs[i].who,.int .i64 bs[i].seq])=gk bs[i].who bs[i].seq from rfl];simp only[c2 bs[i].who bs[i].group,c3 bs[i].who bs[i].seq,at_one,FV.cells,List.getElem?_cons_zero,qb,Option.bind_some,qgh,cond_true,qd9 _ _ _ w2,qd9 _ _ _ w3];have k2:=cnt_le (bs:=bs) (ac:=ac) (isG bs[i].who bs[i].group) i;have k3:=cnt_le (bs:=bs) (ac:=ac) (isN bs[i].who bs[i].seq) i;rw[qi (by omega),qi (by omega)];refine l5_run hl hb n d (i+1) m _ _ _ _ (by omega) (by omega) w2.put w3.put (qgf c2 λv k=>?_) (qgf c3 λv k=>?_)
   ·rw[hs'];rfl
   ·rw[hs'];rfl
def okP(bs:List Blk)(ac:List Bool)(i:Nat):Prop :=
 ∀b,Acc bs ac i b->¬ (0<b.group/\1<cnt bs ac (isG b.who b.group) bs.length)/\¬ (0<b.parent/\cnt bs ac (isN b.who b.parent) bs.length=0)
theorem okP_iff(hl:ac.length=bs.length)(i:Nat):okP bs ac i↔OkAt bs ac i:=by
 have hlt:∀ {j c},Acc bs ac j c->j<bs.length:=λh=>(List.getElem?_eq_some_iff.1 h.1).1;constructor
 ·intro h b hb;obtain⟨h1,h2⟩:=h b hb;refine⟨?_,λj c hj hc hw hg he=>h1 ⟨hg,(qge (hlt hb) hb (by simp[isG])).2 ⟨j,c,hlt hc,hj,hc,by simp[isG,hw,he]⟩⟩⟩;by_cases hp:b.parent<=0
  ·exact .inl hp
  ·right;apply Classical.byContradiction;intro hn;refine h2 ⟨by omega,qgd.2 λj c _ hc=>?_⟩;apply Bool.eq_false_iff.2;intro hq;simp only[isN,Bool.and_eq_true,decide_eq_true_eq,beq_iff_eq]at hq;exact hn ⟨j,c,hc,hq.1,hq.2⟩
 ·intro h b hb;obtain⟨h1,h2⟩:=h b hb;refine⟨λ⟨hg,hc⟩=>?_,λ⟨hp,hc⟩=>?_⟩
  ·obtain⟨j,c,_,hj,hc,hq⟩:=(qge (hlt hb) hb (by simp[isG])).1 hc;simp only[isG,Bool.and_eq_true,decide_eq_true_eq,beq_iff_eq]at hq;exact h2 j c hj hc hq.1 hg hq.2
  ·rcases h1 with h1 | ⟨j,c,hc',hw,he⟩
   ·omega
   ·have:=qgd.1 hc j c (hlt hc') hc';simp[isN,hw,he]at this
theorem l12_run(hl:ac.length=bs.length)(hb:bs.length<=140737488351232)(n:Nat){e2 e3:List FV}{x2 x3:Int}(c2:q6m e2 (λw g=>cnt bs ac (isG w g) bs.length))(c3:q6m e3 (λw g=>cnt bs ac (isN w g) bs.length)) :
  ∀(d i m:Nat),i+d=bs.length->d<m->∃r,q28.l12 n [] m [.list 1 (ac.map .bool),.list 3 e2,.int .i64 x2,.list 3 e3,.int .i64 x3,.list 8 (bs.map Blk.fv),.int .i64 (bs.length:Int),.int .i64 (i:Int)]=some [.bool r] /\
   (r=true↔∀j,i<=j->okP bs ac j)
 |0,i,m+1,hi,hm=>by
  have:i=bs.length:=by omega
  subst this;refine⟨true,by rw[q28.q9k];simp,by simp;intro j hj b hb;exact absurd (List.getElem?_eq_some_iff.1 hb.1).1 (by omega)⟩
 |d+1,i,m+1,hi,hm=>by
  have hib:i<bs.length:=by omega
  have hia:i<ac.length:=by omega
  have hbi:bs[i]?=some bs[i]:=List.getElem?_eq_getElem hib;have hai:ac[i]?=some ac[i]:=List.getElem?_eq_getElem hia;obtain⟨r,hr,hiff⟩:=l12_run hl hb n c2 c3 d (i+1) m (by omega) (by omega);have step:∀ {p:Prop},(okP bs ac i↔p)->((∀j,i<=j->okP bs ac j)↔(p/\r=true)):=λhp=>by
   rw[hiff,<- hp];constructor
   ·exact λh=>⟨h i (Nat.le_refl _),λj hj=>h j (by omega)⟩
   ·rintro⟨h1,h2⟩ j hj;rcases Nat.eq_or_lt_of_le hj with rfl | hj
    ·exact h1
    ·exact h2 j hj
  rw[q28.q9k];have hlt:decide ((i:Int)<(bs.length:Int))=true:=by simpa using hib
  have hix:ix (i:Int) (bs.map Blk.fv).length=some i:=qc (by simpa using hib);have hix2:ix (i:Int) (ac.map FV.bool).length=some i:=qc (by simpa using hia);simp only[hlt,cond_true,hix,hix2,Option.bind_some,q21,hbi,hai,Blk.fv,FV.cells,List.getElem?_cons_zero,List.getElem?_cons_succ,qg,qb,qa,q9];rw[qi (by omega)];cases ha:ac[i]with
  |false =>
   simp only[cond_false];refine⟨r,hr,?_⟩;rw[step (p:=True) ⟨λ_=>trivial,λ_ b hb=>by have:=hb.2;rw[hai,ha]at this;cases this⟩];simp
  |true =>
   simp only[cond_true];rw[show(FV.agg [.str bs[i].who,.int .i64 bs[i].group])=gk bs[i].who bs[i].group from rfl,show(FV.agg [.str bs[i].who,.int .i64 bs[i].parent])=gk bs[i].who bs[i].parent from rfl];simp only[c2 bs[i].who bs[i].group,c3 bs[i].who bs[i].parent,at_one,FV.cells,List.getElem?_cons_zero,qb,Option.bind_some];have hacc:Acc bs ac i bs[i]:=⟨hbi,by rw[hai,ha]⟩;have hok:okP bs ac i↔¬ (0<bs[i].group/\1<cnt bs ac (isG bs[i].who bs[i].group) bs.length)/\¬ (0<bs[i].parent/\cnt bs ac (isN bs[i].who bs[i].parent) bs.length=0) :=
    ⟨λh=>h _ hacc,λh b hb=>by have:=hb.1;rw[hbi]at this;cases this;exact h⟩
   have hstep:=step hok;have e0:∀k:Nat,((k:Int)==0)=decide (k=0):=λk=>by rw[Bool.eq_iff_iff];simp
   rw[hr];by_cases g1:0<bs[i].group <;> by_cases g2:1<cnt bs ac (isG bs[i].who bs[i].group) bs.length <;> by_cases g3:0<bs[i].parent <;> by_cases g4:cnt bs ac (isN bs[i].who bs[i].parent) bs.length=0 <;>
    simp only[g1,g2,g3,g4,true_and,false_and,and_true,and_false,not_true_eq_false,not_false_eq_true]at hstep <;>
    simp[g1,g2,g3,g4,hstep,e0,show((1:Int)<(cnt bs ac (isG bs[i].who bs[i].group) bs.length:Int))↔1<cnt bs ac (isG bs[i].who bs[i].group) bs.length by omega]
theorem qlj(hl:ac.length=bs.length)(hb:bs.length<=140737488351232){n:Nat}(hn:bs.length+1<n):∃r,evF En n 20 [.list 8 (bs.map Blk.fv),.list 1 (ac.map .bool)]=some [.bool r]/\(r=true↔∀j,OkAt bs ac j):=by
 obtain⟨n,rfl⟩:=qSx n (by omega);rw[qgi];obtain⟨f2,y2,f3,y3,c2,c3,h⟩:=l5_run hl hb n bs.length 0 n [] 0 [] 0 (by omega) (by omega) trivial trivial (λw g=>by simp[mgetD,cnt]) (λw g=>by simp[mgetD,cnt]);obtain⟨r,h1,h2⟩:=l12_run hl hb n (x2:=y2) (x3:=y3) c2 c3 bs.length 0 n (by omega) (by omega);refine⟨r,?_,?_⟩
 ·simp only[List.length_map,hl,bne_self_eq_false,cond_false];exact h.trans h1
 ·rw[h2];exact⟨λh j=>(okP_iff hl j).1 (h j (Nat.zero_le _)),λh j _=>(okP_iff hl j).2 (h j)⟩
end
def BlkV.blk(b:BlkV):Blk:=⟨b.who,b.seq,b.zone,b.buy,b.qo,b.qty.map λq=>.int .i64 q,b.parent,b.group⟩
def BlkV.fv(b:BlkV):FV:=b.blk.fv
theorem blk_fv(bs:List BlkV):bs.map BlkV.fv=(bs.map BlkV.blk).map Blk.fv:=by rw[List.map_map];rfl
section
variable {bs:List BlkV} {ac:List Bool}
theorem q8h{i:Nat}{c:Blk}:Acc (bs.map BlkV.blk) ac i c↔∃b,AccV bs ac i b/\b.blk=c:=by
 unfold Acc AccV;rw[List.getElem?_map];constructor
 ·rintro⟨h1,h2⟩;cases hb:bs[i]? with
  |none=>rw[hb]at h1;cases h1
  |some b=>rw[hb]at h1;cases h1;exact⟨b,⟨rfl,h2⟩,rfl⟩
 ·rintro⟨b,⟨h1,h2⟩,rfl⟩;exact⟨by rw[h1];rfl,h2⟩
theorem qgj{i:Nat}:OkAt (bs.map BlkV.blk) ac i↔LinkAt bs ac i:=by
 unfold OkAt LinkAt;constructor
 ·intro h b hb;obtain⟨h1,h2⟩:=h b.blk (q8h.2 ⟨b,hb,rfl⟩);refine⟨h1.imp id λ⟨j,c,hc,e1,e2⟩=>?_,λj c hj hc e1 e2=>h2 j c.blk hj (q8h.2 ⟨c,hc,rfl⟩) e1 e2⟩;obtain⟨c',hc',rfl⟩:=q8h.1 hc;exact⟨j,c',hc',e1,e2⟩
 ·intro h c hc;obtain⟨b,hb,rfl⟩:=q8h.1 hc;obtain⟨h1,h2⟩:=h b hb;refine⟨h1.imp id λ⟨j,c,hc,e1,e2⟩=>⟨j,c.blk,q8h.2 ⟨c,hc,rfl⟩,e1,e2⟩,λj c hj hc e1 e2=>?_⟩;obtain⟨c',hc',rfl⟩:=q8h.1 hc;exact h2 j c' hj hc' e1 e2
theorem link_ne{f:Nat}(hl:bs.length≠ac.length):q3s bs ac=false:=by
 unfold q3s;rw[decide_eq_false hl,Bool.false_and]
theorem link_eq(hl:bs.length=ac.length){r:Bool}(h:r=true↔∀j,OkAt (bs.map BlkV.blk) ac j):r=q3s bs ac:=by
 unfold q3s;rw[decide_eq_true hl,Bool.true_and,Bool.eq_iff_iff,h];simp only[decide_eq_true_eq];exact⟨λq i=>qgj.1 (q i),λq i=>qgj.2 (q i)⟩
theorem linked_ev(hb:bs.length<=1000000):Ev En 20 [.list 8 (bs.map BlkV.fv),.list 1 (ac.map .bool)] [.bool (q3s bs ac)]:=by
 by_cases hl:bs.length=ac.length
 ·refine⟨bs.length+2,λn hn=>?_⟩;obtain⟨r,h1,h2⟩:=qlj (bs:=bs.map BlkV.blk) (ac:=ac) (by rw[List.length_map];exact hl.symm) (by rw[List.length_map];omega) (n:=n) (by rw[List.length_map];omega);rw[blk_fv,h1,link_eq hl h2]
 ·refine Ev.of 0 λn _=>?_;rw[qgi,link_ne (f:=0) hl,List.length_map,List.length_map,show((bs.length:Int) !=(ac.length:Int))=true by simp;omega,cond_true]
end
end Rf
end
section
/- Loops in general: what a loop comes to, if each of its rounds is a step of a plain function. -/
namespace Rf
open Go
def runL{σ:Type}(g:Nat->σ->Option σ):Nat->Nat->σ->Option σ
 |0,_,s=>some s
 |d+1,i,s=>match g i s with
  |some s'=>runL g d (i+1) s'
  |none=>none
theorem loop_run{σ:Type}{F:Nat->Nat->σ->Res}{len:Nat}{g:Nat->σ->Option σ}{fin:σ->Res}{stop:Res}(I:Nat->σ->Prop)
  (hs:∀m i s,i<len->I i s->F (m+1) i s=match g i s with | some s'=>F m (i+1) s' | none=>stop)
  (hI:∀i s s',i<len->I i s->g i s=some s'->I (i+1) s')
  (he:∀m s,I len s->F (m+1) len s=fin s):∀(d i m:Nat) (s:σ),i+d=len->d<m->I i s->F m i s=match runL g d i s with | some s=>fin s | none=>stop:=by
 intro d
 induction d with
 |zero =>
  intro i m s hi hm h;obtain⟨m,rfl⟩:=qSx m (by omega);obtain rfl:i=len:=by omega
  exact he m s h
 |succ d ih =>
  intro i m s hi hm h;obtain⟨m,rfl⟩:=qSx m (by omega);rw[hs m i s (by omega) h];unfold runL;cases hg:g i s with
  |none=>rfl
  |some s'=>exact ih (i+1) m s' (by omega) (by omega) (hI i s s' (by omega) h hg)
theorem q35{F:Nat->Nat->Res}{len:Nat}{P:Nat->Bool}{fin stop:Res}
  (hs:∀m i,i<len->F (m+1) i=bif P i then F m (i+1)else stop)
  (he:∀m,F (m+1) len=fin):∀(d i m:Nat),i+d=len->d<m->F m i=bif(List.range' i d).all P then fin else stop:=by
 intro d
 induction d with
 |zero =>
  intro i m hi hm;obtain⟨m,rfl⟩:=qSx m (by omega);obtain rfl:i=len:=by omega
  exact he m
 |succ d ih =>
  intro i m hi hm;obtain⟨m,rfl⟩:=qSx m (by omega);rw[hs m i (by omega),ih (i+1) m (by omega) (by omega),List.range'_succ,List.all_cons];cases P i <;> rfl
theorem qa1{σ:Type}{F:Nat->Nat->σ->Res}{len:Nat}{g:Nat->σ->σ}{fin:σ->Res}(I:Nat->σ->Prop)
  (hs:∀m i s,i<len->I i s->F (m+1) i s=F m (i+1) (g i s))
  (hI:∀i s,i<len->I i s->I (i+1) (g i s))
  (he:∀m s,I len s->F (m+1) len s=fin s):∀(d i m:Nat) (s:σ),i+d=len->d<m->I i s->F m i s=fin ((List.range' i d).foldl (λs j=>g j s) s)/\I len ((List.range' i d).foldl (λs j=>g j s) s):=by
 intro d
 induction d with
 |zero =>
  intro i m s hi hm h;obtain⟨m,rfl⟩:=qSx m (by omega);obtain rfl:i=len:=by omega
  exact⟨he m s h,h⟩
 |succ d ih =>
  intro i m s hi hm h;obtain⟨m,rfl⟩:=qSx m (by omega);rw[hs m i s (by omega) h,List.range'_succ,List.foldl_cons];exact ih (i+1) m _ (by omega) (by omega) (hI i s (by omega) h)
theorem q4m{P:Nat->Bool}{n:Nat}:(List.range' 0 n).all P=true↔∀i,i<n->P i=true:=by
 rw[List.all_eq_true];constructor
 ·intro h i hi;exact h i (by rw[List.mem_range'_1];omega)
 ·intro h i hi;rw[List.mem_range'_1]at hi;exact h i (by omega)
theorem qhe{P Q:Nat->Bool}{n:Nat}(h:∀i,i<n->P i=Q i):(List.range' 0 n).all P=(List.range' 0 n).all Q:=by
 rw[Bool.eq_iff_iff,q4m,q4m];exact⟨λq i hi=>by rw[<- h i hi];exact q i hi,λq i hi=>by rw[h i hi];exact q i hi⟩
end Rf
end
