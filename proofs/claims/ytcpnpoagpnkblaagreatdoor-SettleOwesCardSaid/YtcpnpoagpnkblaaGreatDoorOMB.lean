/- Texts of this work put together, their blanks and comments taken out: Rf5, Rf6, Rf7, Rf8, Rf9, Rf10, Rf11, Rf12, Rf13. -/
import Derived.Test.YtcpnpoagpnkblaaGreatDoorOMA
import Derived.Laws.MakeOwn
import Derived.Great.BuildSlice
import Derived.Laws.BytesArg
set_option linter.unusedVariables false
set_option linter.unusedSimpArgs false
namespace Rf
open Go
section
section
variable {P:Program} {t:TypeId} {i:TyI} {inf:TypeInfo} {d:TypeDesc} {z:Value}
theorem TyOk.runU(h:TyOk P t i inf d z)(w:World):(underlying t).run P w=.ok d w:=run_underlying h.und w
theorem TyOk.runI(h:TyOk P t i inf d z)(w:World):(typeInfo t).run P w=.ok inf w:=by simp[typeInfo,h.info]
theorem TyOk.runS(h:TyOk P t i inf d z)(w:World):(Go.sizeOf t).run P w=.ok i.size w:=by simp[Go.sizeOf,h.runI,h.size]
theorem TyOk.runZ(h:TyOk P t i inf d z)(w:World):(zeroValue t).run P w=.ok z w:=by simp[zeroValue,h.runI,h.zero]
theorem TyOk.runA(h:TyOk P t i inf d z)(w:World):(isAgg t).run P w=.ok i.agg w:=by
 have hd:=h.desc;cases d <;> simp_all[isAgg,h.runU,descOk]
theorem TyOk.flds(h:TyOk P t i inf d z){f off ft:Nat}(hf:i.flds[f]?=some (off,ft)):∃fs fd,d=.struct fs/\fs[f]?=some fd/\fd.offset=off/\fd.type=ft:=by
 have hd:=h.desc;cases d <;> simp_all[descOk]
 case struct fs =>
  obtain⟨_,h2⟩:=hd;rw[<- h2]at hf;simp only[Bq,BX,Bv,By]at hf;obtain⟨fd,h3,h4,h5⟩:=hf;exact⟨fd,h3,h4,h5⟩
theorem TyOk.scalar(h:TyOk P t i inf d z)(ha:i.agg=false):ck1 d i.ck=true:=by
 have hd:=h.desc;cases d <;> simp_all[descOk]
theorem TyOk.isSlice(h:TyOk P t i inf d z){sz:Nat}(hk:i.ck=[.lst sz])(ha:i.agg=false):d=.slice i.elem:=by
 have hd:=h.desc;cases d <;> simp_all[descOk,ck1]
end
section
variable {E:Env} {call:FuncId->List FV->Res} {X:Cx} {M:Mem} {a:Act} {w:World} {γ:Nat->Gh} {S:Nat->Prop} {us:List (Key×Ent)} {o:Oper}
theorem ql9{x:Operand}(h:Rel X M a w γ S)(hd:∀d,o.dst=some d->X.Dst d)(hop:o.op=.move x\/o.op=.assign x)(hg:Gets (opd x λv=>out o.dst v []) M us):Goal E.P X M o a w us:=by
 obtain⟨s,hs,hg⟩:=q1k h hg;have hr:(execOp a.eval o).run E.P w=.ok (.value (a.eval x)) w:=by
  rcases hop with hop | hop <;> simp[execOp,hop]
 exact .q1i hr (q1f h hd hs hg)
theorem SRep.q49{w:World}{S:Nat->Prop}{γ:Nat->Gh}{hd:Nat->Option Ent}{b:Bool}{v:Value}(h:SRep w S γ hd (.fv (.bool b)) v):v=.bool b:=by
 cases h with
 |fv h=>cases h;rfl
 |tomb hs _=>simp[SV.refId]at hs
theorem SRep.q1n{w:World}{S:Nat->Prop}{γ:Nat->Gh}{hd:Nat->Option Ent}{k:IntKind}{n:Int}{v:Value}(h:SRep w S γ hd (.fv (.int k n)) v):v=.int k n:=by
 cases h with
 |fv h=>cases h;rfl
 |tomb hs _=>simp[SV.refId]at hs
theorem SRep.q5b{w:World}{S:Nat->Prop}{γ:Nat->Gh}{hd:Nat->Option Ent}{s:ByteArray}{v:Value}(h:SRep w S γ hd (.fv (.str s)) v):v=.string s:=by
 cases h with
 |fv h=>cases h;rfl
 |tomb hs _=>simp[SV.refId]at hs
theorem SRep.qaw{w:World}{S:Nat->Prop}{γ:Nat->Gh}{hd:Nat->Option Ent}{u v:Value}(h:SRep w S γ hd (.fv (.raw u)) v):v=u:=by
 cases h with
 |fv h=>cases h;rfl
 |tomb hs _=>simp[SV.refId]at hs
theorem SRep.qcp{w:World}{S:Nat->Prop}{γ:Nat->Gh}{hd:Nat->Option Ent}{sz:Nat}{xs:List FV}{v:Value}(h:SRep w S γ hd (.fv (.list sz xs)) v):FRep w S (.list sz xs) v:=by
 cases h with
 |fv h=>exact h
 |tomb hs _=>simp[SV.refId]at hs
theorem SRep.q8z{w:World}{S:Nat->Prop}{γ:Nat->Gh}{hd:Nat->Option Ent}{v:Value}(h:SRep w S γ hd .nilS v):v=.slice none 0 0:=by
 cases h with
 |nilS=>rfl
 |tomb hs _=>simp[SV.refId]at hs
theorem SRep.qbr{w:World}{S:Nat->Prop}{γ:Nat->Gh}{hd:Nat->Option Ent}{id off n:Nat}{v:Value}(h:SRep w S γ hd (.ptr id off) v)(he:hd id=some (.obj n)):v=.pointer (some ⟨(γ id).blk,off,none⟩):=by
 cases h with
 |ptr _ _=>rfl
 |tomb hs h=>simp[SV.refId]at hs;subst hs;rw[he]at h;simp at h
theorem SRep.qbs{w:World}{S:Nat->Prop}{γ:Nat->Gh}{hd:Nat->Option Ent}{id sz i c s len:Nat}{e:Ent}{v:Value}(h:SRep w S γ hd (.ept id sz i c) v)(he:hd id=some e)(hr:e.row=some (s,len)) :
  v=.pointer (some ⟨(γ id).blk,(γ id).off+(i*sz+c),none⟩)/\sz=s/\i<len/\(γ id).nil=false:=by
 cases h with
 |ept h1 h2 h3 h4=>rw[he]at h1;cases h1;rw[hr]at h2;cases h2;exact⟨rfl,rfl,h4,h3⟩
 |tomb hs h=>simp[SV.refId]at hs;subst hs;rw[he]at h;cases h;simp[Ent.row]at hr
theorem SRep.qe2{w:World}{S:Nat->Prop}{γ:Nat->Gh}{hd:Nat->Option Ent}{sz i c:Nat}{xs:List FV}{v:Value}(h:SRep w S γ hd (.fp sz xs i c) v) :
  ∃b o,v=.pointer (some ⟨b,o+(i*sz+c),none⟩)/\S b/\Row w S b o sz xs/\i<xs.length:=by
 cases h with
 |fp h1 h2 h3=>exact⟨_,_,rfl,h1,h2,h3⟩
 |tomb hs _=>simp[SV.refId]at hs
theorem SRep.qan{w:World}{S:Nat->Prop}{γ:Nat->Gh}{hd:Nat->Option Ent}{cs:List SV}{v:Value}(h:SRep w S γ hd (.agg cs) v):∃vs,v=.agg vs/\vs.size=cs.length/\∀(j:Nat) (s:SV),cs[j]?=some s->SRep w S γ hd s (vs.getD j undef):=by
 cases h with
 |agg h1 h2=>exact⟨_,rfl,h1,h2⟩
 |tomb hs _=>simp[SV.refId]at hs
theorem SRep.tup_inv{w:World}{S:Nat->Prop}{γ:Nat->Gh}{hd:Nat->Option Ent}{cs:List SV}{v:Value}(h:SRep w S γ hd (.tup cs) v):∃vs,v=.tuple vs/\vs.size=cs.length/\∀(j:Nat) (s:SV),cs[j]?=some s->SRep w S γ hd s (vs.getD j undef):=by
 cases h with
 |tup h1 h2=>exact⟨_,rfl,h1,h2⟩
 |tomb hs _=>simp[SV.refId]at hs
theorem SRep.clo_inv{w:World}{S:Nat->Prop}{γ:Nat->Gh}{hd:Nat->Option Ent}{fn:Fn}{fs cs:List SV}{v:Value}(h:SRep w S γ hd (.clo fn fs cs) v) :
  ∃f c,v=.func fn f c/\f.size=fs.length/\c.size=cs.length/\(∀(j:Nat) (s:SV),fs[j]?=some s->SRep w S γ hd s (f.getD j undef))/\∀(j:Nat) (s:SV),cs[j]?=some s->SRep w S γ hd s (c.getD j undef):=by
 cases h with
 |clo h1 h2 h3 h4=>exact⟨_,_,rfl,h1,h2,h3,h4⟩
 |tomb hs _=>simp[SV.refId]at hs
theorem SRep.q67{w:World}{S:Nat->Prop}{γ:Nat->Gh}{hd:Nat->Option Ent}{id s len:Nat}{view:Option (Nat×Nat)}{e:Ent}{v:Value}(h:SRep w S γ hd (.sl id view) v)(he:hd id=some e)(hr:e.row=some (s,len)) :
  (view=none/\v=.slice (γ id).base len (γ id).cap)\/∃o n a c,view=some (o,n)/\v=.slice a n c/\o+n<=len/\n<=c/\(n≠0->(γ id).nil=false/\a=some ⟨(γ id).blk,(γ id).off+o*s,none⟩)/\(o=0->a=(γ id).base/\c=(γ id).cap):=by
 cases h with
 |sl h1 h2=>rw[he]at h1;cases h1;rw[hr]at h2;cases h2;exact .inl ⟨rfl,rfl⟩
 |view h1 h2 h3 h4 h5 h6=>rw[he]at h1;cases h1;rw[hr]at h2;cases h2;exact .inr ⟨_,_,_,_,rfl,rfl,h3,h4,h5,h6⟩
 |tomb hs h=>simp[SV.refId]at hs;subst hs;rw[he]at h;cases h;simp[Ent.row]at hr
theorem sim_pick{c x y:Operand}(h:Rel X M a w γ S)(hd:∀d,o.dst=some d->X.Dst d)(hop:o.op=.pick c x y)(hg:Gets (rtOp E call o) M us):Goal E.P X M o a w us:=by
 simp only[rtOp,hop]at hg;obtain⟨c',hc,hg⟩:=q1k h hg;obtain⟨x',hx,hg⟩:=q1k h hg;obtain⟨y',hy,hg⟩:=q1k h hg;cases c' with
 |fv q =>
  cases q with
  |bool b =>
   have hcv:=hc.q49;have hr:(execOp a.eval o).run E.P w=.ok (.value (if b then a.eval x else a.eval y)) w:=by
    simp[execOp,hop,hcv,Go.asBool]
   refine .q1i (γ:=γ) (S:=S) hr ?_;dsimp only at hg;split at hg
   ·rename_i b1 b2 heq;have e1:=hx.q49;have e2:=hy.q49;refine q1f h hd (s:=.fv (.bool (cond b b1 b2))) ?_ hg;cases b <;> simp[e1,e2] <;> exact .fv (.bool _)
   ·rcases q6y hg with⟨rfl,hg⟩ | ⟨rfl,hg⟩
    ·exact q1f h hd hx hg
    ·exact q1f h hd hy hg
  |_=>exact(qh hg).elim
 |_=>exact(qh hg).elim
theorem qgi{f:SV->RT}{s:SV}{v:Value}(hs:SRep w S γ (hdOf M) s v)(hg:Gets (live s (f s)) M us) :
  (∃b o,v=.pointer (some ⟨b,o,none⟩))/\Gets (f s) M us:=by
 unfold live at hg;split at hg
 ·obtain⟨e,he,hg⟩:=q2y hg;split at hg
  ·exact⟨⟨_,_,hs.qbr he⟩,hg⟩
  ·exact(qh hg).elim
 ·obtain⟨e,he,hg⟩:=q2y hg;split at hg
  ·exact⟨⟨_,_,(hs.qbs he rfl).1⟩,hg⟩
  ·exact⟨⟨_,_,(hs.qbs he rfl).1⟩,hg⟩
  ·exact(qh hg).elim
 ·obtain⟨b,o,h1,_⟩:=hs.qe2;exact⟨⟨_,_,h1⟩,hg⟩
 ·exact(qh hg).elim
theorem qs8{x:Operand}(h:Rel X M a w γ S)(hd:∀d,o.dst=some d->X.Dst d)(hop:o.op=.nilCheck x)(hg:Gets (rtOp E call o) M us):Goal E.P X M o a w us:=by
 simp only[rtOp,hop]at hg;obtain⟨s,hs,hg⟩:=q1k h hg;obtain⟨⟨b,off,hv⟩,hg⟩:=qgi (f:=λs=>out o.dst s []) hs hg;refine .q1i (v:=a.eval x) ?_ (q1f h hd hs hg);simp[execOp,hop,hv]
theorem binI_ok{op:BinOp}{k:IntKind}{m n:Int}{f:SV->RT}(hg:Gets (binI op k m n f) M us){xt:TypeId}(hs:op≠.shl/\op≠.shr) :
  ∃s v,Gets (f s) M us/\SRep w S γ (hdOf M) s v/\(Go.binOp op xt (.int k m) (.int k n)).run E.P w=.ok v w:=by
 have I:∀q,SRep w S γ (hdOf M) (.fv (.int k q)) (.int k q):=λq=>.fv (.int k q);have B:∀q,SRep w S γ (hdOf M) (.fv (.bool q)) (.bool q):=λq=>.fv (.bool q);have div:∀op',(op'=.quo\/op'=.rem)->¬ n=0->(Go.binOp op' xt (.int k m) (.int k n)).run E.P w=.ok (.int k (match op' with | .quo=>k.wrap (m.tdiv n) | _=>m.tmod n)) w:=by
  intro op' ho hn;rcases ho with rfl | rfl <;> simp[Go.binOp,Op.intDiv,hn]
 cases op with
 |add=>exact⟨_,_,hg,I _,by simp[Go.binOp,Op.intArith]⟩
 |sub=>exact⟨_,_,hg,I _,by simp[Go.binOp,Op.intArith]⟩
 |mul=>exact⟨_,_,hg,I _,by simp[Go.binOp,Op.intArith]⟩
 |quo =>
  rcases q6y hg with⟨_,hg⟩ | ⟨hb,hg⟩
  ·exact(qh hg).elim
  ·exact⟨_,_,hg,I _,div .quo (.inl rfl) (by simpa using hb)⟩
 |rem =>
  rcases q6y hg with⟨_,hg⟩ | ⟨hb,hg⟩
  ·exact(qh hg).elim
  ·exact⟨_,_,hg,I _,div .rem (.inr rfl) (by simpa using hb)⟩
 |and=>exact⟨_,_,hg,I _,by simp only[Go.binOp,ne_eq,CY,BH];rfl⟩
 |or=>exact⟨_,_,hg,I _,by simp only[Go.binOp,ne_eq,CY,BH];rfl⟩
 |xor=>exact⟨_,_,hg,I _,by simp only[Go.binOp,ne_eq,CY,BH];rfl⟩
 |andNot=>exact⟨_,_,hg,I _,by simp only[Go.binOp,ne_eq,CY,BH];rfl⟩
 |eql=>exact⟨_,_,hg,B _,by simp[Go.binOp,Op.intCmp]⟩
 |neq=>exact⟨_,_,hg,B _,by simp[Go.binOp,Op.intCmp]⟩
 |lss=>exact⟨_,_,hg,B _,by simp[Go.binOp,Op.intCmp]⟩
 |leq=>exact⟨_,_,hg,B _,by simp[Go.binOp,Op.intCmp]⟩
 |gtr=>exact⟨_,_,hg,B _,by simp[Go.binOp,Op.intCmp]⟩
 |geq=>exact⟨_,_,hg,B _,by simp[Go.binOp,Op.intCmp]⟩
 |shl=>exact absurd rfl hs.1
 |shr=>exact absurd rfl hs.2
theorem binS_ok{op:BinOp}{m n:ByteArray}{f:SV->RT}(hg:Gets (binS op m n f) M us){xt:TypeId} :
  ∃s v,Gets (f s) M us/\SRep w S γ (hdOf M) s v/\(Go.binOp op xt (.string m) (.string n)).run E.P w=.ok v w:=by
 have B:∀q,SRep w S γ (hdOf M) (.fv (.bool q)) (.bool q):=λq=>.fv (.bool q);cases op with
 |add =>
  rcases q6y hg with⟨_,hg⟩ | ⟨hb,hg⟩
  ·exact(qh hg).elim
  ·have hb':¬ ((m.size+n.size:Nat):Int)>IntKind.i64.max:=by simpa using hb
   exact⟨_,_,hg,.fv (.str _),by simp only[Go.binOp,Op.stringOp];rw[if_neg hb'];rfl⟩
 |eql=>exact⟨_,_,hg,B _,by simp[Go.binOp,Op.stringOp]⟩
 |neq=>exact⟨_,_,hg,B _,by simp[Go.binOp,Op.stringOp]⟩
 |lss=>exact⟨_,_,hg,B _,by simp[Go.binOp,Op.stringOp]⟩
 |leq=>exact⟨_,_,hg,B _,by simp[Go.binOp,Op.stringOp]⟩
 |gtr=>exact⟨_,_,hg,B _,by simp[Go.binOp,Op.stringOp]⟩
 |geq=>exact⟨_,_,hg,B _,by simp[Go.binOp,Op.stringOp]⟩
 |_=>exact(qh hg).elim
theorem qsa{P:Program}{t:TypeId}(h:P.underlying t=some .bool)(a b:Bool)(w:World):(Op.equal t (.bool a) (.bool b)).run P w=.ok (a==b) w:=by
 have:∀d,(Op.equalIn (d+1) t (.bool a) (.bool b)).run P w=.ok (a==b) w:=λd=>by
  simp only[Op.equalIn,Sem.run_bind,run_underlying h,Result.andThen_ok,Sem.run_pure]
 exact this 9999
theorem qla{P:Program}{t:TypeId}{el:TypeId}(h:P.underlying t=some (.pointer el))(a:Option Addr)(w:World):(Op.equal t (.pointer a) (.pointer none)).run P w=.ok a.isNone w:=by
 have:∀d,(Op.equalIn (d+1) t (.pointer a) (.pointer none)).run P w=.ok a.isNone w:=λd=>by
  cases a <;> simp only[Op.equalIn,Sem.run_bind,run_underlying h,Result.andThen_ok,Sem.run_pure,Option.isNone]
 exact this 9999
theorem sim_binOp{op:BinOp}{xt yt:TypeId}{x y:Operand}(hE:q15 E)(h:Rel X M a w γ S)(hd:∀d,o.dst=some d->X.Dst d)(hop:o.op=.binOp op xt x y yt)(hg0:Gets (rtOp E call o) M us):Goal E.P X M o a w us:=by
 simp only[rtOp,hop]at hg0;obtain⟨s,hs,hg1⟩:=q1k h hg0;obtain⟨t,ht,hg⟩:=q1k h hg1;clear hg0 hg1;have fin:∀s v,Gets (out o.dst s []) M us->SRep w S γ (hdOf M) s v->(∀p q:Value,a.eval x=p->a.eval y=q->(eqGuard op xt x y p q).run E.P w=.ok () w) ->
   (Go.binOp op xt (a.eval x) (a.eval y)).run E.P w=.ok v w->Goal E.P X M o a w us:=by
  intro s v hg hs hq hr;refine .q1i (v:=v) ?_ (q1f h hd hs hg);simp only[execOp,hop,Sem.run_bind,hq _ _ rfl rfl,Result.andThen_ok,hr,Sem.run_pure]
 have guardOk:∀p q:Value,(match p with | .int _ _ | .string _ | .bool _=>true | _=>false)=true->(eqGuard op xt x y p q).run E.P w=.ok () w:=by
  intro p q hp;cases p <;> simp at hp <;> cases op <;> simp[eqGuard]
 unfold binOp at hg;split at hg
 ·rename_i k m k' n;have e1:=hs.q1n;have e2:=ht.q1n;split at hg
  ·rcases q6y hg with⟨_,hg⟩ | ⟨hb,hg⟩
   ·exact(qh hg).elim
   ·have hb':¬ n<0:=by simpa using hb
    exact fin _ _ hg (.fv (.int _ _)) (λp q hp hq=>guardOk p q (by rw[<- hp,e1])) (by rw[e1,e2];simp only[Go.binOp,Op.shift];rw[if_neg hb'];simp[shI])
  ·rcases q6y hg with⟨_,hg⟩ | ⟨hb,hg⟩
   ·exact(qh hg).elim
   ·have hb':¬ n<0:=by simpa using hb
    exact fin _ _ hg (.fv (.int _ _)) (λp q hp hq=>guardOk p q (by rw[<- hp,e1])) (by rw[e1,e2];simp only[Go.binOp,Op.shift];rw[if_neg hb'];simp[shI])
  ·rename_i h1 h2;obtain⟨hk,hg2⟩:=q16 hg;rw[q7c]at hk;subst hk;obtain⟨s',v,hg,hr,hrun⟩:=binI_ok (E:=E) (w:=w) (S:=S) (γ:=γ) (xt:=xt) hg2 ⟨λh=>h1 h,λh=>h2 h⟩;exact fin _ _ hg hr (λp q hp hq=>guardOk p q (by rw[<- hp,e1])) (by rw[e1,e2];exact hrun)
 ·have e1:=hs.q5b;have e2:=ht.q5b;obtain⟨s',v,hg,hr,hrun⟩:=binS_ok (E:=E) (w:=w) (S:=S) (γ:=γ) (xt:=xt) hg;exact fin _ _ hg hr (λp q hp hq=>guardOk p q (by rw[<- hp,e1])) (by rw[e1,e2];exact hrun)
 ·rename_i hni hns;have eqDone:∀(neg:Bool),op=(if neg then .neq else .eql)->(∀i,E.ty xt=some i->Gets (eqOp neg i s t λv=>out o.dst v []) M us->Goal E.P X M o a w us):=by
   clear hg;intro neg hopn i hi hg;obtain⟨inf,d,z,hT⟩:=q8q (hE.ty xt i hi);unfold eqOp at hg;split at hg
   ·rename_i b1 b2 ha hck;have hc1:=hT.scalar ha;rw[hck]at hc1;have hdd:d=.bool:=by cases d <;> simp[ck1]at hc1;rfl
    subst hdd;have e1:=hs.q49;have e2:=ht.q49;refine fin _ (.bool (cond neg (!(b1==b2)) (b1==b2))) hg (.fv (.bool _)) (λp q hp hq=>guardOk p q (by rw[<- hp,e1])) ?_;rw[e1,e2,hopn];cases neg <;> simp[Go.binOp,qsa hT.und]
   ·rename_i id off ha hck;have hc1:=hT.scalar ha;rw[hck]at hc1;obtain⟨el,hdd⟩:∃el,d=.pointer el:=by cases d <;> simp[ck1]at hc1;exact⟨_,rfl⟩
    subst hdd;obtain⟨⟨b,o',hv⟩,hg⟩:=qgi (f:=λ_=>out o.dst (.fv (.bool neg)) []) hs hg;have e2:=ht.qaw;refine fin _ (.bool neg) hg (.fv (.bool _)) (λp q hp hq=>?_) ?_
    ·subst hp hq;rw[hv,e2,hopn];cases neg <;> simp[eqGuard]
    ·rw[hv,e2,hopn];cases neg <;> simp[Go.binOp,qla hT.und]
   ·rename_i ha hck;have hc1:=hT.scalar ha;rw[hck]at hc1;obtain⟨el,hdd⟩:∃el,d=.pointer el:=by cases d <;> simp[ck1]at hc1;exact⟨_,rfl⟩
    subst hdd;have e1:=hs.qaw;have e2:=ht.qaw;refine fin _ (.bool (!neg)) hg (.fv (.bool _)) (λp q hp hq=>?_) ?_
    ·subst hp hq;rw[e1,e2,hopn];cases neg <;> simp[eqGuard]
    ·rw[e1,e2,hopn];cases neg <;> simp[Go.binOp,qla hT.und]
   ·exact(qh hg).elim
  split at hg
  ·rename_i i hi;exact eqDone false rfl i hi hg
  ·rename_i i hi;exact eqDone true rfl i hi hg
  ·exact(qh hg).elim
end
end
section
theorem q5d(b o n:Nat):(⟨b,o,none⟩:Addr).add n=⟨b,o+n,none⟩:=by
 unfold Addr.add;split <;> simp_all
section
variable {E:Env} {call:FuncId->List FV->Res} {X:Cx} {M:Mem} {a:Act} {w:World} {γ:Nat->Gh} {S:Nat->Prop} {us:List (Key×Ent)} {o:Oper}
theorem q5e{t:TypeId}{f:TyI->RT}(hE:q15 E)(h:Gets (sliceTy E t f) M us):∃el i inf d z,E.P.underlying t=some (.slice el)/\TyOk E.P el i inf d z/\Gets (f i) M us:=by
 unfold sliceTy at h;obtain⟨ti,inf,d,z,hT,h⟩:=q3p hE h;split at h
 ·rename_i sz ha hck;obtain⟨i,inf',d',z',hT',h⟩:=q3p hE h;have:=hT.isSlice hck ha;exact⟨ti.elem,i,inf',d',z',by rw[hT.und,this],hT',h⟩
 ·exact(qh h).elim
theorem qfn{t:TypeId}{f:RT}(hE:q15 E)(h:Gets (isStr E t f) M us):E.P.underlying t=some .string/\Gets f M us:=by
 unfold isStr at h;obtain⟨ti,inf,d,z,hT,h⟩:=q3p hE h;split at h
 ·rename_i ha hck;have hc:=hT.scalar ha;rw[hck]at hc;have:d=.string:=by cases d <;> simp[ck1]at hc;rfl
  exact⟨by rw[hT.und,this],h⟩
 ·exact(qh h).elim
theorem sim_unOp{op:UnOp}{xt:TypeId}{x:Operand}(h:Rel X M a w γ S)(hd:∀d,o.dst=some d->X.Dst d)(hop:o.op=.unOp op xt x)(hg0:Gets (rtOp E call o) M us):Goal E.P X M o a w us:=by
 simp only[rtOp,hop]at hg0;obtain⟨s,hs,hg⟩:=q1k h hg0;clear hg0;unfold unOp at hg;split at hg
 ·have e:=hs.q1n;refine .q1i (v:=.int _ _) ?_ (q1f h hd (.fv (.int _ _)) hg);simp[execOp,hop,e,Op.unary,Op.intArith]
 ·have e:=hs.q49;refine .q1i (v:=.bool _) ?_ (q1f h hd (.fv (.bool _)) hg);simp[execOp,hop,e,Op.unary]
 ·have e:=hs.q1n;refine .q1i (v:=.int _ _) ?_ (q1f h hd (.fv (.int _ _)) hg);simp only[execOp,hop,e,Op.unary];rfl
 ·exact(qh hg).elim
theorem getD_map{xs:List Operand}{ss:List SV}{f:Operand->Value}{R:SV->Value->Prop}(hl:ss.length=xs.length)(h:∀(j:Nat) (x:Operand),xs[j]?=some x->∃s,ss[j]?=some s/\R s (f x))
  (j:Nat) (s:SV) (hs:ss[j]?=some s):R s ((xs.map f).toArray.getD j undef):=by
 have hj:j<xs.length:=by
  have:=(Ao.1 hs).1;omega
 obtain⟨s',h1,h2⟩:=h j xs[j] (Ag hj);rw[hs]at h1;cases h1;simpa[Az,Ag hj]using h2
theorem qrj{fn:Fn}{first caps:Array Operand}(h:Rel X M a w γ S)(hd:∀d,o.dst=some d->X.Dst d)(hop:o.op=.makeFunc fn first caps)(hg0:Gets (rtOp E call o) M us):Goal E.P X M o a w us:=by
 simp only[rtOp,hop]at hg0;obtain⟨fs,l1,h1,hg1⟩:=qbq h hg0;obtain⟨cs,l2,h2,hg⟩:=qbq h hg1;refine .q1i (v:=.func fn (first.map a.eval) (caps.map a.eval)) (by simp[execOp,hop,Instr.makeFunc]) (q1f h hd (.clo (by simp[l1]) (by simp[l2]) (λj s hs=>?_) λj s hs=>?_) hg)
 ·simpa using getD_map (f:=a.eval) l1 h1 j s hs
 ·simpa using getD_map (f:=a.eval) l2 h2 j s hs
theorem qrk{st:TypeId}{x:Operand}{f:Nat}(hE:q15 E)(h:Rel X M a w γ S)(hd:∀d,o.dst=some d->X.Dst d)(hop:o.op=.fieldAddr st x f)(hg0:Gets (rtOp E call o) M us):Goal E.P X M o a w us:=by
 simp only[rtOp,hop]at hg0;obtain⟨i,inf,d,z,hT,hg1⟩:=q3p hE hg0;obtain⟨s,hs,hg⟩:=q1k h hg1;clear hg0 hg1;split at hg
 ·rename_i off ft hf;obtain⟨fs,fd,rfl,hfd,ho,hft⟩:=hT.flds hf;obtain⟨fi,finf,fd',fz,hF,hg1⟩:=q3p hE hg;obtain⟨hsz,hg2⟩:=q16 hg1;have hsz':fi.size≠0:=by have:=Bz hsz;omega
  have run:∀b p,a.eval x=.pointer (some ⟨b,p,none⟩)->(execOp a.eval o).run E.P w=.ok (.value (.pointer (some ⟨b,p+off,none⟩))) w:=λb p hv=>by
   simp[execOp,hop,hv,Instr.fieldAt,hT.runU,hfd,Instr.sureAddr,fieldPlace,hft,hF.runS,hsz',ho,q5d]
  clear hg hg1
  obtain⟨_,hg⟩:=qgi (f:=λs=>match s with
   |.ptr id o'=>out o.dst (.ptr id (o'+off)) []
   |.ept id sz j c=>out o.dst (.ept id sz j (c+off)) []
   |.fp sz xs j c=>out o.dst (.fp sz xs j (c+off)) []
   |_=>.fail) hs hg2
  unfold live at hg2;split at hg2
  ·rename_i id off';obtain⟨e,he,hg3⟩:=q2y hg2;split at hg3
   ·have hv:=hs.qbr he;exact .q1i (run _ _ hv) (q1f h hd (.ptr he rfl) hg)
   ·exact(qh hg3).elim
  ·rename_i id sz j c;obtain⟨e,he,hg3⟩:=q2y hg2;have fin:∀s' len,e.row=some (s',len)->Goal E.P X M o a w us:=λs' len hr=>by
    obtain⟨hv,e1,e2,e3⟩:=hs.qbs he hr;have:=run _ _ hv;rw[Bl,Bl]at this;exact .q1i this (q1f h hd (e1▸.ept he (e1▸hr) e3 e2) hg)
   split at hg3
   ·exact fin _ _ rfl
   ·exact fin _ _ rfl
   ·exact(qh hg3).elim
  ·rename_i sz xs j c;obtain⟨b,p,hv,h1,h2,h3⟩:=hs.qe2;have:=run _ _ hv;rw[Bl,Bl]at this;exact .q1i this (q1f h hd (.fp h1 h2 h3) hg)
  ·exact(qh hg2).elim
 ·exact(qh hg).elim
theorem sim_field{st:TypeId}{x:Operand}{f:Nat}(hE:q15 E)(h:Rel X M a w γ S)(hd:∀d,o.dst=some d->X.Dst d)(hop:o.op=.field st x f)(hg0:Gets (rtOp E call o) M us):Goal E.P X M o a w us:=by
 simp only[rtOp,hop]at hg0;obtain⟨i,inf,d,z,hT,hg1⟩:=q3p hE hg0;obtain⟨s,hs,hg⟩:=q1k h hg1;clear hg0 hg1;split at hg
 ·rename_i off ft cs hf;obtain⟨fs,fd,rfl,hfd,ho,hft⟩:=hT.flds hf;obtain⟨fi,finf,fd',fz,hF,hg1⟩:=q3p hE hg;obtain⟨hle,hg2⟩:=q16 hg1;have hle':=Bz hle;obtain⟨vs,hv,hl,hr⟩:=hs.qan;clear hg hg1;cases hfa:fi.agg with
  |true =>
   rw[hfa]at hg2;refine .q1i (v:=.agg (vs.extract off (off+fi.size))) ?_ (q1f h hd (.agg ?_ ?_) hg2)
   ·simp[execOp,hop,hv,Instr.field,hT.runU,hfd,part,asAgg,hft,hF.runA,hF.runS,hfa,ho]
   ·simp;omega
   ·intro j s hj;rw[Dp]at hj;split at hj
    ·rw[CA]at hj;have:=hr _ _ hj;have hlt:=(Ao.1 hj).1;have hlt':off+j<vs.size:=by omega
     rw[Az,Array.getElem?_extract_of_lt (by omega)];rwa[Az,Bp hlt']at this
    ·simp at hj
  |false =>
   rw[hfa]at hg2;simp only[Ab]at hg2;split at hg2
   ·rename_i v' hv';have hlt:=(Ao.1 hv').1;obtain⟨v0,hq⟩:∃v0,vs[off]?=some v0:=⟨_,Bp (by omega)⟩;have hr':=hr _ _ hv';rw[Az,hq,Bg]at hr';refine .q1i (v:=v0) ?_ (q1f h hd hr' hg2);simp[execOp,hop,hv,Instr.field,hT.runU,hfd,part,asAgg,hft,hF.runA,hfa,ho,hq]
   ·exact(qh hg2).elim
 ·exact(qh hg).elim
theorem qrl{x:Operand}{j:Nat}(h:Rel X M a w γ S)(hd:∀d,o.dst=some d->X.Dst d)(hop:o.op=.extract x j)(hg0:Gets (rtOp E call o) M us):Goal E.P X M o a w us:=by
 simp only[rtOp,hop]at hg0;obtain⟨s,hs,hg⟩:=q1k h hg0;clear hg0;split at hg
 ·obtain⟨vs,hv,hl,hr⟩:=hs.tup_inv;split at hg
  ·rename_i v' hv';have hlt:=(Ao.1 hv').1;obtain⟨v0,hq⟩:∃v0,vs[j]?=some v0:=⟨_,Bp (by omega)⟩;have hr':=hr _ _ hv';rw[Az,hq,Bg]at hr';exact .q1i (v:=v0) (by simp[execOp,hop,hv,Instr.extract,hq]) (q1f h hd hr' hg)
  ·exact(qh hg).elim
 ·exact(qh hg).elim
theorem qgj{i:Int}{n j:Nat}(h:ix i n=some j):0<=i/\i<n/\j=i.toNat/\j<n:=by
 unfold ix at h;split at h
 ·rename_i hh;cases h;exact⟨hh.1,hh.2,rfl,by omega⟩
 ·simp at h
theorem qfl{i:Int}{n j:Nat}(h:bd i n=some j):0<=i/\i<=n/\j=i.toNat/\j<=n:=by
 unfold bd at h;split at h
 ·rename_i hh;cases h;exact⟨hh.1,hh.2,rfl,by omega⟩
 ·simp at h
theorem sim_index{t:TypeId}{x y:Operand}(hE:q15 E)(h:Rel X M a w γ S)(hd:∀d,o.dst=some d->X.Dst d)(hop:o.op=.index t x y)(hg0:Gets (rtOp E call o) M us):Goal E.P X M o a w us:=by
 simp only[rtOp,hop]at hg0;obtain⟨s,hs,hg1⟩:=q1k h hg0;obtain⟨r,hr,hg⟩:=q1k h hg1;clear hg0 hg1;split at hg
 ·rename_i s' k n;have e1:=hs.q5b;have e2:=hr.q1n;obtain⟨hu,hg⟩:=qfn hE hg;obtain⟨b,hb,hg⟩:=qe0 hg;unfold q2q at hb;split at hb
  ·rename_i h0;obtain⟨q,hq,rfl⟩:=BX.1 hb;refine .q1i (v:=.int .u8 q.toNat) ?_ (q1f h hd (.fv (.int _ _)) hg);simp[execOp,hop,e1,e2,Instr.index,asIntOf,run_underlying hu,h0,hq]
  ·simp at hb
 ·exact(qh hg).elim
theorem qrm{t:TypeId}{x y:Operand}(hE:q15 E)(h:Rel X M a w γ S)(hd:∀d,o.dst=some d->X.Dst d)(hop:o.op=.indexAddr t x y)(hg0:Gets (rtOp E call o) M us):Goal E.P X M o a w us:=by
 simp only[rtOp,hop]at hg0;obtain⟨el,te,inf,d,z,hu,hT,hg1⟩:=q5e hE hg0;obtain⟨s,hs,hg2⟩:=q1k h hg1;obtain⟨r,hr,hg⟩:=q1k h hg2;clear hg0 hg1 hg2;have run:∀(k:IntKind) (n:Int) (b p:Nat) (len cap:Nat),a.eval y=.int k n->a.eval x=.slice (some ⟨b,p,none⟩) len cap->0<=n->n<len ->
   (execOp a.eval o).run E.P w=.ok (.value (.pointer (some ⟨b,p+n.toNat*te.size,none⟩))) w:=by
  intro k n b p len cap h1 h2 h3 h4;simp[execOp,hop,h1,h2,Instr.indexAt,asIntOf,run_underlying hu,h3,h4,hT.runS,q5d]
 split at hg
 ·rename_i k n;have e2:=hr.q1n;split at hg
  ·rename_i sz xs;obtain⟨hsz,hg1⟩:=q16 hg;have hsz':=Aw hsz;obtain⟨j,hj,hg2⟩:=q9e hg1;obtain⟨h0,h1,rfl,h3⟩:=qgj hj;obtain⟨aa,cap,b,p,hv,hc,ha,hrow⟩:=FRep.q38.1 hs.qcp;have hne:xs≠[]:=by intro hx;simp[hx]at h3
   obtain⟨rfl,hS⟩:=ha hne;refine .q1i (run k n b p _ cap e2 hv h0 h1) (q1f h hd ?_ hg2);have:=SRep.fp (γ:=γ) (hd:=hdOf M) (c:=0) hS hrow h3;rw[Ay,hsz']at this;rw[hsz'];exact this
  ·rename_i id view;obtain⟨e,he,hg1⟩:=q2y hg;have fin:∀(sz:Nat) (xs:List FV),e.row=some (sz,xs.length)->Gets (bif Nat.beq sz te.size then ixView n xs.length view λj=>out o.dst (.ept id sz j 0) []else .fail) M us->(∀q,(γ id).base=some q->(γ id).nil=false)->Goal E.P X M o a w us:=by
    intro sz xs hrow hg hnil;obtain⟨hsz,hg1⟩:=q16 hg;have hsz':=Aw hsz;subst hsz';rcases hs.q67 he hrow with⟨rfl,hv⟩ | ⟨o',m,aa,c,rfl,hv,hom,hc,ha,_⟩
    ·obtain⟨j,hj,hg2⟩:=q9e hg1;obtain⟨h0,h1,rfl,h3⟩:=qgj hj;have hnn:(γ id).nil=false:=by
      cases hq:(γ id).nil with
      |false=>rfl
      |true =>
       exfalso;have ho:=h.head id e he;cases e with
       |vec _ ys=>simp[ORep,hq]at ho;simp[Ent.row]at hrow;rw[<- hrow.2,ho.2.1]at h3;simp at h3
       |frz _ ys=>simp[ORep,hq]at ho;simp[Ent.row]at hrow;rw[<- hrow.2,ho.2.1]at h3;simp at h3
       |_=>simp[Ent.row]at hrow
     have hb:(γ id).base=some ⟨(γ id).blk,(γ id).off,none⟩:=by simp[Gh.base,hnn]
     rw[hb]at hv;refine .q1i (run k n _ _ _ _ e2 hv h0 h1) (q1f h hd ?_ hg2);exact SRep.ept (c:=0) he hrow hnn h3
    ·obtain⟨j,hj,hg2⟩:=q9e hg1;obtain⟨h0,h1,rfl,h3⟩:=qgj hj;obtain⟨hnn,rfl⟩:=ha (by omega);have:=run k n _ _ _ _ e2 hv h0 h1;refine .q1i this (q1f h hd ?_ hg2);have q:=SRep.ept (w:=w) (S:=S) (c:=0) (i:=o'+n.toNat) he hrow hnn (by omega);rwa[AT,Ay,<- Bl]at q
   split at hg1
   ·exact fin _ _ rfl hg1 (by intro q hq;unfold Gh.base at hq;split at hq <;> simp_all)
   ·exact fin _ _ rfl hg1 (by intro q hq;unfold Gh.base at hq;split at hq <;> simp_all)
   ·exact(qh hg1).elim
  ·exact(qh hg).elim
 ·exact(qh hg).elim
end
end
section
theorem Row.sub{w:World}{S:Nat->Prop}{b o sz:Nat}{xs:List FV}(h:Row w S b o sz xs)(l n:Nat):Row w S b (o+l*sz) sz ((xs.take n).drop l):=by
 refine⟨λx hx=>h.1 x (CL (Cy hx)),λi j x c h1 h2=>?_⟩;rw[CA,Dp]at h1;split at h1
 ·obtain⟨v,h3,h4⟩:=h.2 (l+i) j x c h1 h2;exact⟨v,by rw[show o+l*sz+(i*sz+j)=o+((l+i)*sz+j) by rw[AT];omega];exact h3,h4⟩
 ·simp at h1
section
variable {E:Env} {call:FuncId->List FV->Res} {X:Cx} {M:Mem} {a:Act} {w:World} {γ:Nat->Gh} {S:Nat->Prop} {us:List (Key×Ent)} {o:Oper}
def BV(x:Option Int)(v:Option Value):Prop:=(x=none/\v=none)\/∃k n,x=some n/\v=some (.int k n)
theorem run_sliceBound{P:Program}{k:IntKind}{n:Int}{y:Nat}{j:Nat}{code:BoundsCode}(h:0<=n/\n<=y/\j=n.toNat)(w:World):(Instr.sliceBound (.int k n) y code).run P w=.ok j w:=by
 simp[Instr.sliceBound,asIntOf,h.1,h.2.1,h.2.2]
theorem qd5{len:Nat}{lo hi:Option Int}{g:Nat->Nat->RT}(hg:Gets (slB len lo hi g) M us){lov hiv:Option Value}(hl:BV lo lov)(hh:BV hi hiv) :
  ∃l h,l<=h/\h<=len/\Gets (g l h) M us/\∀(P:Program) (w:World) (b:Bool) (cap:Nat),len<=cap->(Instr.sliceBounds b len cap lov hiv none).run P w=.ok (l,h,cap) w:=by
 unfold slB at hg;have low:∀h,h<=len->Gets (slLo h lo g) M us->∃l,l<=h/\Gets (g l h) M us/\((lov=none/\l=0)\/∃k n,lov=some (.int k n)/\0<=n/\n<=h/\l=n.toNat):=by
  intro h hle hg;unfold slLo at hg;rcases hl with⟨rfl,rfl⟩ | ⟨k,n,rfl,rfl⟩
  ·exact⟨0,BP _,hg,.inl ⟨rfl,rfl⟩⟩
  ·obtain⟨l,h1,hg⟩:=q9e hg;obtain⟨q1,q2,q3,q4⟩:=qfl h1;exact⟨l,q4,hg,.inr ⟨k,n,rfl,q1,q2,q3⟩⟩
 rcases hh with⟨rfl,rfl⟩ | ⟨k,n,rfl,rfl⟩
 ·obtain⟨l,h1,h2,h3⟩:=low len (Ak _) hg;refine⟨l,len,h1,Ak _,h2,λP w b cap hc=>?_⟩;rcases h3 with⟨rfl,rfl⟩ | ⟨k',n',rfl,r1,r2,r3⟩
  ·simp[Instr.sliceBounds]
  ·simp[Instr.sliceBounds,run_sliceBound (P:=P) (k:=k') ⟨r1,r2,r3⟩]
 ·obtain⟨h,h0,hg⟩:=q9e hg;obtain⟨q1,q2,q3,q4⟩:=qfl h0;obtain⟨l,h1,h2,h3⟩:=low h q4 hg;refine⟨l,h,h1,q4,h2,λP w b cap hc=>?_⟩;have hb:=λ(code:BoundsCode) (w:World)=>run_sliceBound (P:=P) (k:=k) (n:=n) (y:=cap) (j:=h) (code:=code) ⟨q1,by omega,q3⟩ w;rcases h3 with⟨rfl,rfl⟩ | ⟨k',n',rfl,r1,r2,r3⟩
  ·simp[Instr.sliceBounds,hb]
  ·simp[Instr.sliceBounds,hb,run_sliceBound (P:=P) (k:=k') ⟨r1,r2,r3⟩]
theorem qfm(h:Rel X M a w γ S){x:Option Operand}{f:Option SV->RT}(hg:Gets (opdO x f) M us) :
  (x=none/\Gets (f none) M us)\/∃y s,x=some y/\SRep w S γ (hdOf M) s (a.eval y)/\Gets (f (some s)) M us:=by
 unfold opdO at hg;split at hg
 ·exact .inl ⟨rfl,hg⟩
 ·obtain⟨s,hs,hg⟩:=q1k h hg;exact .inr ⟨_,s,rfl,hs,hg⟩
theorem qjd{x:Option Operand}{s:Option SV}{f:Option Int->RT}(hx:(x=none/\s=none)\/∃y t,x=some y/\s=some t/\SRep w S γ (hdOf M) t (a.eval y))(hg:Gets (qd6 s f) M us) :
  ∃n,BV n (x.map a.eval)/\Gets (f n) M us:=by
 unfold qd6 at hg;rcases hx with⟨rfl,rfl⟩ | ⟨y,t,rfl,rfl,ht⟩
 ·exact⟨none,.inl ⟨rfl,rfl⟩,hg⟩
 ·cases t with
  |fv q =>
   cases q with
   |int k n=>exact⟨some n,.inr ⟨k,n,rfl,by simp[ht.q1n]⟩,hg⟩
   |_=>exact(qh hg).elim
  |_=>exact(qh hg).elim
theorem nil_len{e:Ent}{id sz len:Nat}(h:Rel X M a w γ S)(he:hdOf M id=some e)(hr:e.row=some (sz,len))(hl:0<len):(γ id).nil=false:=by
 cases hq:(γ id).nil with
 |false=>rfl
 |true =>
  exfalso;have ho:=h.head id e he;cases e with
  |vec _ ys=>simp[ORep,hq]at ho;simp[Ent.row]at hr;rw[<- hr.2,ho.2.1]at hl;simp at hl
  |frz _ ys=>simp[ORep,hq]at ho;simp[Ent.row]at hr;rw[<- hr.2,ho.2.1]at hl;simp at hl
  |_=>simp[Ent.row]at hr
theorem len_cap{e:Ent}{id sz len:Nat}(h:Rel X M a w γ S)(he:hdOf M id=some e)(hr:e.row=some (sz,len)):len<=(γ id).cap:=by
 have ho:=h.head id e he;cases e with
 |vec _ ys=>simp[Ent.row]at hr;rw[<- hr.2];exact ho.1
 |frz _ ys=>simp[Ent.row]at hr;rw[<- hr.2];exact ho.1
 |_=>simp[Ent.row]at hr
theorem qd7{P:Program}{t el:TypeId}(hu:P.underlying t=some (.slice el))(x:Value)(lo hi mx:Option Value)(w:World):(Instr.sliceAt t x lo hi mx).run P w=(Instr.slice t x lo hi mx).run P w:=by
 simp[Instr.sliceAt,run_underlying hu]
theorem qpa{P:Program}{t:TypeId}(hu:P.underlying t=some .string)(x:Value)(lo hi mx:Option Value)(w:World):(Instr.sliceAt t x lo hi mx).run P w=(Instr.slice t x lo hi mx).run P w:=by
 simp[Instr.sliceAt,run_underlying hu]
theorem sim_slice{t:TypeId}{x:Operand}{lo hi mx:Option Operand}(hE:q15 E)(h:Rel X M a w γ S)(hd:∀d,o.dst=some d->X.Dst d)(hop:o.op=.slice t x lo hi mx)(hg0:Gets (rtOp E call o) M us):Goal E.P X M o a w us:=by
 simp only[rtOp,hop]at hg0;obtain⟨s,hs,hg1⟩:=q1k h hg0;clear hg0;rcases qfm h hg1 with hlo | hlo
 all_goals
  clear hg1
  first
   |obtain⟨rfl,hg2⟩:=hlo
    have hlo':(none:Option Operand)=none/\(none:Option SV)=none\/∃y t,(none:Option Operand)=some y/\(none:Option SV)=some t/\SRep w S γ (hdOf M) t (a.eval y):=.inl ⟨rfl,rfl⟩
   |obtain⟨y1,s1,rfl,hs1,hg2⟩:=hlo
    have hlo':(some y1:Option Operand)=none/\(some s1:Option SV)=none\/∃y t,(some y1:Option Operand)=some y/\(some s1:Option SV)=some t/\SRep w S γ (hdOf M) t (a.eval y):=.inr ⟨_,_,rfl,rfl,hs1⟩
  rcases qfm h hg2 with hhi | hhi
  all_goals
   clear hg2
   first
    |obtain⟨rfl,hg3⟩:=hhi
     have hhi':(none:Option Operand)=none/\(none:Option SV)=none\/∃y t,(none:Option Operand)=some y/\(none:Option SV)=some t/\SRep w S γ (hdOf M) t (a.eval y):=.inl ⟨rfl,rfl⟩
    |obtain⟨y2,s2,rfl,hs2,hg3⟩:=hhi
     have hhi':(some y2:Option Operand)=none/\(some s2:Option SV)=none\/∃y t,(some y2:Option Operand)=some y/\(some s2:Option SV)=some t/\SRep w S γ (hdOf M) t (a.eval y):=.inr ⟨_,_,rfl,rfl,hs2⟩
   rcases qfm h hg3 with⟨rfl,hg4⟩ | ⟨_,_,_,_,hg4⟩
   ·clear hg3;dsimp only at hg4;obtain⟨l,hl,hg5⟩:=qjd hlo' hg4;obtain⟨u,hu,hg6⟩:=qjd hhi' hg5;clear hg4 hg5;exact sliceFin hE h hd hop hs hl hu hg6
   ·exact(qh hg4).elim
where
 sliceFin {t:TypeId} {x:Operand} {lo hi:Option Operand} (hE:q15 E) (h:Rel X M a w γ S) (hd:∀d,o.dst=some d->X.Dst d) (hop:o.op=.slice t x lo hi none) {s:SV} (hs:SRep w S γ (hdOf M) s (a.eval x))
   {l u:Option Int} (hl:BV l (lo.map a.eval)) (hu:BV u (hi.map a.eval)) (hg:Gets (sliceOp E t s l u λv=>out o.dst v []) M us):Goal E.P X M o a w us:=by
  have run:∀v,(Instr.sliceAt t (a.eval x) (lo.map a.eval) (hi.map a.eval) none).run E.P w=.ok v w->(execOp a.eval o).run E.P w=.ok (.value v) w:=λv hv=>by
   simp[execOp,hop,hv]
  unfold sliceOp at hg;split at hg
  ·rename_i str;have e:=hs.q5b;obtain⟨ht,hg⟩:=qfn hE hg;obtain⟨p,q,h1,h2,hg,hb⟩:=qd5 hg hl hu;refine .q1i (v:=.string (str.extract p q)) (run _ ?_) (q1f h hd (.fv (.str _)) hg);rw[qpa ht,e];simp[Instr.slice,run_underlying ht,hb E.P w false str.size (Ak _)]
  ·rename_i sz xs;obtain⟨el,te,inf,d,z,ht,hT,hg⟩:=q5e hE hg;obtain⟨hsz,hg⟩:=q16 hg;have hsz':=Aw hsz;obtain⟨p,q,h1,h2,hg,hb⟩:=qd5 hg hl hu;obtain⟨aa,cap,b,o',hv,hc,ha,hrow⟩:=FRep.q38.1 hs.qcp;have hlen:((xs.take q).drop p).length=q-p:=by simp;omega
   refine .q1i (v:=.slice (if cap=p then aa else aa.map (·.add (p*te.size))) (q-p) (cap-p)) (run _ ?_) (q1f h hd (.fv (FRep.q38.2 ⟨_,_,b,o'+p*sz,by rw[hlen],by rw[hlen];omega,λhne=>?_,hrow.sub p q⟩)) hg)
   ·rw[qd7 ht,hv];simp[Instr.slice,run_underlying ht,hb E.P w true cap hc,hT.runS]
   ·have:q-p≠0:=by intro h0;exact hne (BF (by rw[hlen];exact h0))
    obtain⟨rfl,hS⟩:=ha (by rintro rfl;simp at h2;omega);rw[if_neg (by omega)];exact⟨by simp[q5d,hsz'],hS⟩
  ·obtain⟨el,te,inf,d,z,ht,hT,hg⟩:=q5e hE hg;obtain⟨p,q,h1,h2,hg,hb⟩:=qd5 hg hl hu;have e:=hs.q8z;obtain rfl:p=0:=by omega
   obtain rfl:q=0:=by omega
   refine .q1i (v:=.slice none 0 0) (run _ ?_) (q1f h hd .nilS hg);rw[qd7 ht,e];simp[Instr.slice,run_underlying ht,hb E.P w true 0 (Ak _),hT.runS]
  ·rename_i id view;obtain⟨el,te,inf,d,z,ht,hT,hg⟩:=q5e hE hg;obtain⟨e,he,hg⟩:=q2y hg;split at hg
   ·rename_i sz len hrow;obtain⟨hsz,hg⟩:=q16 hg;have hsz':=Aw hsz;obtain⟨p,q,h1,h2,hg,hb⟩:=qd5 hg hl hu;have hcap:=len_cap h he hrow;rcases hs.q67 he hrow with⟨rfl,hv⟩ | ⟨o',m,aa,c,rfl,hv,hom,hc,ha,h0⟩
    ·simp only[viewOf]at h2 hb hg;refine .q1i (v:=.slice (if(γ id).cap=p then(γ id).base else(γ id).base.map (·.add (p*te.size))) (q-p) ((γ id).cap-p)) (run _ ?_) (q1f h hd (.view he hrow (by omega) (by omega) (λhne=>?_) λh0=>?_) hg)
     ·rw[qd7 ht,hv];simp[Instr.slice,run_underlying ht,hb E.P w true _ hcap,hT.runS]
     ·have hn:=nil_len h he hrow (by omega);rw[if_neg (by omega)];exact⟨hn,by simp[Gh.base,hn,q5d,hsz']⟩
     ·have:p=0:=by omega
      subst this;refine⟨?_,by simp⟩;split
      ·rfl
      ·cases(γ id).base <;> simp[Addr.add]
    ·simp only[viewOf]at h2 hb hg;refine .q1i (v:=.slice (if c=p then aa else aa.map (·.add (p*te.size))) (q-p) (c-p)) (run _ ?_) (q1f h hd (.view he hrow (by omega) (by omega) (λhne=>?_) λh0'=>?_) hg)
     ·rw[qd7 ht,hv];simp[Instr.slice,run_underlying ht,hb E.P w true _ hc,hT.runS]
     ·obtain⟨hn,rfl⟩:=ha (by omega);rw[if_neg (by omega)];refine⟨hn,?_⟩;simp only[AD,q5d,hsz',AT,Bl]
     ·have hp:p=0:=by omega
      have ho:o'=0:=by omega
      subst hp;obtain⟨rfl,rfl⟩:=h0 ho;refine⟨?_,by simp⟩;split
      ·rfl
      ·cases(γ id).base <;> simp[Addr.add]
   ·exact(qh hg).elim
  ·exact(qh hg).elim
end
end
section
section
variable {P:Program} {t:TypeId} {i:TyI} {inf:TypeInfo} {d:TypeDesc} {z:Value}
theorem qmr(hT:TyOk P t i inf d z)(ha:i.agg=true){w:World}{b p:Nat}(cs:List Value)(hl:cs.length=i.size)(h:∀(j:Nat) (v:Value),cs[j]?=some v->cellAt w b (p+j)=some v) :
  (loadVar t ⟨b,p,none⟩).run P w=.ok (.agg cs.toArray) w:=by
 have:=run_loadCells_list (P:=P) w ⟨b,p,none⟩ cs (λj v hv=>by rw[q5d];exact h j v hv);simp[loadVar,hT.runA,ha,hT.runS,<- hl,this]
theorem qms(hT:TyOk P t i inf d z)(ha:i.agg=false){w:World}{b p:Nat}{v:Value}(h:cellAt w b p=some v):(loadVar t ⟨b,p,none⟩).run P w=.ok v w:=by
 have h':w.cell? ⟨b,p,none⟩=some v:=h;simp[loadVar,hT.runA,ha,h']
theorem TyOk.one(h:TyOk P t i inf d z)(ha:i.agg=false):∃k,i.ck=[k]/\i.size=1:=by
 have hc:=h.scalar ha;have hl:=h.len;unfold ck1 at hc;split at hc <;> first | (simp at hc;done) | (rename_i hk;rw[hk]at hl;exact⟨_,hk,by simpa using hl.symm⟩)
theorem qmf(hT:TyOk P t i inf d z){w:World}{b p:Nat}{v:Value}{cur:Array Value}{e:TypeId}(hs:v.cells.size=i.size)(hg:w.heap[b]?=some (.cells cur e (0,0)))(hl:p+i.size<=cur.size)
  (h1:∀u∈v.cells.toList,u.oneCell'=true) :
  (storeVar t ⟨b,p,none⟩ v).run P w=.ok () (w.setRow b (cur.toList.take p++v.cells.toList++cur.toList.drop (p+i.size)).toArray):=by
 have:=run_storeCells_at P b p e v.cells.toList 0 cur w hg (by simp[hs];omega) h1;simp only[Ay,Bw,hs]at this;simp only[storeVar,Sem.run_bind,hT.runS,Result.andThen_ok,hs,ne_eq,CY,BH];exact this
end
theorem But.setRow(w:World)(b:Nat)(cs:Array Value):But b w (w.setRow b cs) :=
 ⟨by simp[World.setRow],λk hk _=>setRow_other w b k cs hk,rfl,rfl,rfl⟩
section
variable {E:Env} {call:FuncId->List FV->Res} {X:Cx} {M:Mem} {a:Act} {w:World} {γ:Nat->Gh} {S:Nat->Prop} {us:List (Key×Ent)} {o:Oper}
theorem qhv{id:Nat}:∀ {n off:Nat} {f:List SV->RT},Gets (rdCells id off n f) M us ->
  ∃vs,vs.length=n/\(∀(j:Nat) (s:SV),vs[j]?=some s->Mem.get (.cell id (off+j)) M=some (.sv s))/\Gets (f vs) M us
 |0,off,f,h=>⟨[],rfl,λj s hj=>by simp at hj,h⟩
 |n+1,off,f,h=>by
  unfold rdCells at h;obtain⟨e,he,h⟩:=q6u h;split at h
  ·rename_i v;obtain⟨vs,h1,h2,h3⟩:=qhv h;refine⟨v::vs,by simp[h1],λj s hj=>?_,h3⟩;cases j with
   |zero=>simp at hj;subst hj;exact he
   |succ j=>have:=h2 j s (by simpa using hj);rwa[Bl,Bo 1 j]at this
  ·exact(qh h).elim
theorem qgs{x:Option FV}{k:CK}{f:SV->RT}(h:Gets (rdFV x k f) M us) :
  ∃e s,x=some e/\s.flat=true/\(∀(w:World) (S:Nat->Prop) (γ:Nat->Gh) (hd:Nat->Option Ent) (v:Value),FRep w S e v->SRep w S γ hd s v)/\Gets (f s) M us:=by
 unfold rdFV at h;split at h
 ·obtain⟨n,hn,h'⟩:=qe0 h;clear h;unfold asInt at hn;split at hn
  ·rename_i k0 k' m;split at hn
   ·rename_i hk;subst hk;cases hn;exact⟨_,_,rfl,rfl,λw S γ hd v hv=>.fv hv,h'⟩
   ·simp at hn
  ·simp at hn
 ·obtain⟨n,hn,h⟩:=qkg h;unfold asBool at hn;split at hn
  ·cases hn;exact⟨_,_,rfl,rfl,λw S γ hd v hv=>.fv hv,h⟩
  ·simp at hn
 ·obtain⟨n,hn,h⟩:=qf1 h;unfold asStr at hn;split at hn
  ·cases hn;exact⟨_,_,rfl,rfl,λw S γ hd v hv=>.fv hv,h⟩
  ·simp at hn
 ·rename_i sz;obtain⟨n,hn,h'⟩:=qao h;clear h;unfold asLst at hn;split at hn
  ·rename_i s xs;split at hn
   ·rename_i hk;subst hk;cases hn;exact⟨_,_,rfl,rfl,λw S γ hd v hv=>.fv hv,h'⟩
   ·split at hn
    ·cases hn;refine⟨_,_,rfl,rfl,λw S γ hd v hv=>.fv ?_,h'⟩;obtain⟨aa,cap,b,o,rfl,h1,h2,h3⟩:=FRep.q38.1 hv;exact FRep.q38.2 ⟨aa,cap,b,o,rfl,h1,h2,λx hx=>by simp at hx,λi j x c hx=>by simp at hx⟩
    ·simp at hn
  ·simp at hn
 ·exact(qh h).elim
theorem qgr{xs:List FV}{i:Nat}:∀ {ks:List CK} {c:Nat} {f:List SV->RT},Gets (rdFVs xs i c ks f) M us ->
  ∃ss,ss.length=ks.length/\(∀(j:Nat) (s:SV),ss[j]?=some s->s.flat=true/\∃e,at' xs i (c+j)=some e/\∀(w:World) (S:Nat->Prop) (γ:Nat->Gh) (hd:Nat->Option Ent) (v:Value),FRep w S e v->SRep w S γ hd s v)/\Gets (f ss) M us
 |[],c,f,h=>⟨[],rfl,λj s hj=>by simp at hj,h⟩
 |k::ks,c,f,h=>by
  unfold rdFVs at h;obtain⟨e,s,h1,h2,h3,h⟩:=qgs h;obtain⟨ss,h4,h5,h⟩:=qgr h;refine⟨s::ss,by simp[h4],λj s' hj=>?_,h⟩;cases j with
  |zero=>simp at hj;subst hj;exact⟨h2,e,h1,h3⟩
  |succ j=>have:=h5 j s' (by simpa using hj);rwa[Bl,Bo 1 j]at this
theorem at'_row{b p sz i c:Nat}{xs:List FV}{e:FV}(hr:Row w S b p sz xs)(h:at' xs i c=some e):∃v,cellAt w b (p+(i*sz+c))=some v/\FRep w S e v:=by
 unfold at' at h;obtain⟨x,h1,h2⟩:=CD.1 h;exact hr.2 i c x e h1 h2
theorem qmt{t:TypeId}{ti:TyI}{inf:TypeInfo}{d:TypeDesc}{z:Value}(hT:TyOk E.P t ti inf d z){b p sz i c:Nat}{xs:List FV}(hr:Row w S b p sz xs){f:SV->RT}(hg:Gets (q7x ti xs i c f) M us) :
  ∃s v,(loadVar t ⟨b,p+(i*sz+c),none⟩).run E.P w=.ok v w/\SRep w S γ (hdOf M) s v/\Gets (f s) M us:=by
 unfold q7x at hg;cases ha:ti.agg with
 |true =>
  rw[ha]at hg;obtain⟨ss,h1,h2,hg⟩:=qgr hg;have hv:∀j,j<ss.length->∃v,cellAt w b (p+(i*sz+(c+j)))=some v/\SRep w S γ (hdOf M) (ss.getD j .dead) v:=λj hj=>by
   obtain⟨_,e,h3,h4⟩:=h2 j ss[j] (Ag hj);obtain⟨v,h5,h6⟩:=at'_row hr h3;exact⟨v,h5,by simp only[AG,Ag hj,Bg];exact h4 _ _ _ _ _ h6⟩
  refine⟨.agg ss,.agg ((List.range ss.length).map λj=>(cellAt w b (p+(i*sz+(c+j)))).getD undef).toArray,?_,.agg (by simp) (λj s hj=>?_),hg⟩
  ·refine qmr hT ha _ (by simp[h1,hT.len]) λj v hj=>?_;simp only[Bq,BX]at hj;obtain⟨k,hk,rfl⟩:=hj;obtain⟨hk1,rfl⟩:j<ss.length/\k=j:=by
    have:=Ao.1 hk;obtain⟨q,r⟩:=this;simp at q r;exact⟨q,r.symm⟩
   obtain⟨v,h5,_⟩:=hv k hk1;rw[show p+(i*sz+c)+k=p+(i*sz+(c+k)) by omega,h5];rfl
  ·have hj':=(Ao.1 hj).1;obtain⟨v,h5,h6⟩:=hv j hj';simp only[AG,hj,Bg]at h6;simpa[Az,hj',h5]using h6
 |false =>
  rw[ha]at hg;obtain⟨k,hk,hs⟩:=hT.one ha;simp only[Ab,hk]at hg;obtain⟨e,s,h1,h2,h3,hg⟩:=qgs hg;obtain⟨v,h5,h6⟩:=at'_row hr h1;exact⟨s,v,qms hT ha h5,h3 _ _ _ _ _ h6,hg⟩
theorem obj_rep{id n:Nat}(h:Rel X M a w γ S)(he:hdOf M id=some (.obj n)):∃vals e,w.heap[(γ id).blk]?=some (.cells vals e (0,0))/\vals.size=n /\
   ∀j,j<n->∃s,Mem.get (.cell id j) M=some (.sv s)/\s.flat=true/\SRep w S γ (hdOf M) s (vals.getD j undef):=(h.head id _ he).2
theorem qlv{t:TypeId}{ti:TyI}{inf:TypeInfo}{d:TypeDesc}{z:Value}(hT:TyOk E.P t ti inf d z)(h:Rel X M a w γ S){s:SV}{pv:Value}(hs:SRep w S γ (hdOf M) s pv){f:SV->RT}(hg:Gets (load ti s f) M us) :
  ∃b p s v,pv=.pointer (some ⟨b,p,none⟩)/\(loadVar t ⟨b,p,none⟩).run E.P w=.ok v w/\SRep w S γ (hdOf M) s v/\Gets (f s) M us:=by
 have fin:∀b p s v,pv=.pointer (some ⟨b,p,none⟩)->(loadVar t ⟨b,p,none⟩).run E.P w=.ok v w->SRep w S γ (hdOf M) s v->Gets (f s) M us ->
   ∃b p s v,pv=.pointer (some ⟨b,p,none⟩)/\(loadVar t ⟨b,p,none⟩).run E.P w=.ok v w/\SRep w S γ (hdOf M) s v/\Gets (f s) M us:=λb p s v h1 h2 h3 h4=>⟨b,p,s,v,h1,h2,h3,h4⟩
 unfold load at hg;split at hg
 ·rename_i id off;obtain⟨e,he,hg⟩:=q2y hg;split at hg
  ·rename_i n;obtain⟨hle,hg⟩:=q16 hg;have hle':=Bz hle;have hv:=hs.qbr he;obtain⟨vals,te,hb,hsz,hc⟩:=obj_rep h he;cases ha:ti.agg with
   |true =>
    rw[ha]at hg;obtain⟨ss,h1,h2,hg⟩:=qhv hg;refine fin _ _ (.agg ss) (.agg ((vals.toList.drop off).take ti.size).toArray) hv ?_ (.agg (by simp;omega) λj s hj=>?_) hg
    ·refine qmr hT ha _ (by simp;omega) λj v hj=>?_;rw[q5l hb];rw[Dp]at hj;split at hj
     ·rw[CA]at hj;simpa using hj
     ·simp at hj
    ·have hj':=(Ao.1 hj).1;obtain⟨s',q1,q2,q3⟩:=hc (off+j) (by omega);rw[h2 j s hj]at q1;cases q1;have:((vals.toList.drop off).take ti.size).toArray.getD j undef=vals.getD (off+j) undef:=by
      have:j<ti.size:=by omega
      simp[Az,this]
     rw[this];exact q3
   |false =>
    rw[ha]at hg;simp only[Ab]at hg;obtain⟨e',he',hg⟩:=q6u hg;obtain⟨k,hk,h1⟩:=hT.one ha;split at hg
    ·rename_i v;obtain⟨s',q1,q2,q3⟩:=hc off (by omega);rw[he']at q1;cases q1;refine fin _ _ v (vals.getD off undef) hv (qms hT ha ?_) q3 hg;rw[q5l hb,Az,Bp (by omega),Bg]
    ·exact(qh hg).elim
  ·exact(qh hg).elim
 ·rename_i sz xs i c;obtain⟨_,hg⟩:=q16 hg;obtain⟨b,p,hv,h1,h2,h3⟩:=hs.qe2;obtain⟨s',v,h4,h5,h6⟩:=qmt (γ:=γ) hT h2 hg;exact fin _ _ s' v hv h4 h5 h6
 ·rename_i id sz i c;obtain⟨e,he,hg⟩:=q2y hg;have go:∀s' xs,e.row=some (s',xs.length)->(e=.vec s' xs\/e=.frz s' xs)->Gets (bif Nat.beq s' sz&&Nat.ble (c+ti.size) sz then q7x ti xs i c f else .fail) M us ->
    ∃b p s v,pv=.pointer (some ⟨b,p,none⟩)/\(loadVar t ⟨b,p,none⟩).run E.P w=.ok v w/\SRep w S γ (hdOf M) s v/\Gets (f s) M us:=by
   clear hg;intro s' xs hrow hcase hg0;obtain⟨hb,hg⟩:=q16 hg0;clear hg0;obtain⟨hv,rfl,hi,hn⟩:=hs.qbs he hrow;have hrowR:Row w S (γ id).blk (γ id).off sz xs:=by
    have ho:=h.head id e he;rcases hcase with rfl | rfl
    ·have:=ho.2;rw[if_neg (by simp[hn])]at this;obtain⟨_,_,_,_,q⟩:=this;exact q
    ·have:=ho.2;rw[if_neg (by simp[hn])]at this;exact this.2
   obtain⟨s',v,h4,h5,h6⟩:=qmt (γ:=γ) hT hrowR hg;exact fin _ _ s' v hv h4 h5 h6
  split at hg
  ·exact go _ _ rfl (.inl rfl) hg
  ·exact go _ _ rfl (.inr rfl) hg
  ·exact(qh hg).elim
 ·exact(qh hg).elim
theorem sim_load{t:TypeId}{x:Operand}(hE:q15 E)(h:Rel X M a w γ S)(hd:∀d,o.dst=some d->X.Dst d)(hop:o.op=.load t x)(hg0:Gets (rtOp E call o) M us):Goal E.P X M o a w us:=by
 simp only[rtOp,hop]at hg0;obtain⟨ti,inf,d,z,hT,hg1⟩:=q3p hE hg0;obtain⟨s,hs,hg⟩:=q1k h hg1;obtain⟨b,p,s',v,h1,h2,h3,h4⟩:=qlv hT h hs hg;refine .q1i (v:=v) ?_ (q1f h hd h3 h4);simp[execOp,hop,Instr.loadAt,h1,Instr.sureAddr,h2]
end
end
section
def qw(M:Mem)(us:List (Key×Ent)):Prop :=
 ∀p,p∈us->∃id s xs,p=(.head id,.frz s xs)/\(hdOf M id=some (.vec s xs)\/hdOf M id=some (.frz s xs))
theorem qw.nil(M:Mem):qw M []:=λp hp=>by simp at hp
theorem qw.app{M:Mem}{u v:List (Key×Ent)}(h:qw M u)(k:qw M v):qw M (u++v):=λp hp=>(BL.1 hp).elim (h p) (k p)
theorem qw.cons{M:Mem}{id s:Nat}{xs:List FV}{u:List (Key×Ent)}(h:hdOf M id=some (.vec s xs)\/hdOf M id=some (.frz s xs))(k:qw M u):qw M ((.head id,.frz s xs)::u):=λp hp=>by
 rcases Ar.1 hp with rfl | hp
 ·exact⟨id,s,xs,rfl,h⟩
 ·exact k p hp
theorem qw.tail{M:Mem}{p:Key×Ent}{u:List (Key×Ent)}(h:qw M (p::u)):qw M u:=λq hq=>h q (AA _ hq)
theorem qw.get{M:Mem}{us:List (Key×Ent)}(h:qw M us)(k:Key) :
  (Mem.get k (us++M)=Mem.get k M/\∀e,(k,e) ∉ us)\/∃id s xs,k=.head id/\Mem.get k (us++M)=some (.frz s xs)/\(hdOf M id=some (.vec s xs)\/hdOf M id=some (.frz s xs)):=by
 induction us with
 |nil=>exact .inl ⟨rfl,λe h=>by simp at h⟩
 |cons p us ih =>
  obtain⟨id,s,xs,rfl,hp⟩:=h _ AF;rw[Al,Mem.qj];by_cases hk:k=.head id
  ·rw[if_pos hk];exact .inr ⟨id,s,xs,hk,rfl,hp⟩
  ·rw[if_neg hk];rcases ih h.tail with⟨h1,h2⟩ | h1
   ·exact .inl ⟨h1,λe he=>(Ar.1 he).elim (λhe=>hk (by cases he;rfl)) (h2 e)⟩
   ·exact .inr h1
theorem qw.mem{M:Mem}{us:List (Key×Ent)}(h:qw M us){id s:Nat}{xs:List FV}(hm:(Key.head id,Ent.frz s xs)∈us):hdOf (us++M) id=some (.frz s xs):=by
 obtain⟨_,_,_,he,hq⟩:=h _ hm;cases he;rcases h.get (.head id)with⟨_,h2⟩ | ⟨id',s',xs',h1,h2,h3⟩
 ·exact absurd hm (h2 _)
 ·cases h1;rw[hdOf,h2];rcases hq with hq | hq <;> rcases h3 with h3 | h3 <;> rw[hq]at h3 <;> cases h3 <;> rfl
section
variable {X:Cx} {M:Mem} {a:Act} {w:World} {γ:Nat->Gh} {S:Nat->Prop}
theorem Rel.q8p(h:Rel X M a w γ S):∀ {us:List (Key×Ent)},qw M us ->
  ∃S',(∀b,S b->S' b)/\(∀b,S' b->S b\/∃id s xs,(Key.head id,Ent.frz s xs)∈us/\b=(γ id).blk)/\Rel X (us++M) a w γ S'
 |[],_=>⟨S,λ_ h=>h,λ_ h=>.inl h,h⟩
 |p::us,hf=>by
  obtain⟨S1,h1,h2,h3⟩:=h.q8p hf.tail;obtain⟨id,s,xs,rfl,hp⟩:=hf _ AF;have hh:hdOf (us++M) id=some (.vec s xs)\/hdOf (us++M) id=some (.frz s xs):=by
   rcases hf.tail.get (.head id)with⟨q,_⟩ | ⟨id',s',xs',q1,q2,q3⟩
   ·rw[hdOf,q];exact hp
   ·cases q1;right;rw[hdOf,q2];rcases hp with hp | hp <;> rcases q3 with q3 | q3 <;> rw[hp]at q3 <;> cases q3 <;> rfl
  have hM:q43 id (us++M) ((.head id,.frz s xs)::(us++M)):=by
   refine⟨λi hi=>?_,λi j hi=>?_,λt=>?_⟩
   ·rw[hdOf,hdOf,Mem.qj,if_neg (by simpa using hi)]
   ·rw[Mem.qj,if_neg (by simp)]
   ·rw[Mem.qj,if_neg (by simp)]
  obtain⟨S',k1,k2,k3⟩:=h3.freeze hM hh (by rw[hdOf,Mem.qj,if_pos rfl]);refine⟨S',λb hb=>k1 b (h1 b hb),λb hb=>?_,k3⟩;rcases k2 b hb with q | q
  ·rcases h2 b q with q | ⟨id',s',xs',q1,q2⟩
   ·exact .inl q
   ·exact .inr ⟨id',s',xs',AA _ q1,q2⟩
  ·exact .inr ⟨id,s,xs,AF,q⟩
theorem qw.hdLe{us:List (Key×Ent)}(h:qw M us):HdLe (hdOf M) (hdOf (us++M)) γ γ:=λid e he=>by
 rcases h.get (.head id)with⟨h1,_⟩ | ⟨id',s,xs,h1,h2,h3⟩
 ·exact⟨e,by rw[hdOf,h1];exact he,.inr ⟨rfl,rfl,λh=>h,rfl⟩⟩
 ·cases h1;refine⟨_,h2,.inr ?_⟩;rcases h3 with h3 | h3 <;> rw[he]at h3 <;> cases h3 <;> exact⟨rfl,rfl,λh=>by simp at h,rfl⟩
inductive FzOk(M:Mem)(us:List (Key×Ent)):SV->FV->Prop
 |nilS:FzOk M us .nilS (.list 0 [])
 |fv {x:FV} (h:x.flat=true):FzOk M us (.fv x) x
 |sl {id s:Nat} {xs:List FV} (h:(Key.head id,Ent.frz s xs)∈us):FzOk M us (.sl id none) (.list s xs)
 |view {id s o n:Nat} {xs:List FV} (h:(Key.head id,Ent.frz s xs)∈us):FzOk M us (.sl id (some (o,n))) (.list s ((xs.drop o).take n))
theorem FzOk.flat{us:List (Key×Ent)}{s:SV}{x:FV}(h:FzOk M us s x):x.flat=true:=by
 cases h with
 |fv h=>exact h
 |_=>rfl
theorem qam{w:World}{S:Nat->Prop}{sz:Nat}{a:Option Addr}{cap:Nat}:FRep w S (.list sz []) (.slice a 0 cap) :=
 FRep.q38.2 ⟨a,cap,0,0,rfl,BP _,λh=>absurd rfl h,λ_ h=>by simp at h,λi j x c h=>by simp at h⟩
theorem Row.sub'{b o sz:Nat}{xs:List FV}(h:Row w S b o sz xs)(l n:Nat):Row w S b (o+l*sz) sz ((xs.drop l).take n):=by
 have:=h.sub l (l+n);rwa[List.drop_take,Nat.add_sub_cancel_left]at this
theorem frz_rep(h:Rel X M a w γ S){id s:Nat}{xs:List FV}(he:hdOf M id=some (.frz s xs)){view:Option (Nat×Nat)}{v:Value}(hv:SRep w S γ (hdOf M) (.sl id view) v) :
  FRep w S (.list s (match view with | none=>xs | some (o,n)=>(xs.drop o).take n)) v:=by
 have ho:=h.head id _ he;rcases hv.q67 he rfl with⟨rfl,rfl⟩ | ⟨o,n,aa,c,rfl,rfl,h1,h2,h3,h4⟩
 ·by_cases hn:(γ id).nil=true
  ·have h2:=ho.2;rw[if_pos hn]at h2;simp only[h2.1,Bf];exact qam
  ·have h2:=ho.2;rw[if_neg hn]at h2;exact FRep.q38.2 ⟨_,_,(γ id).blk,(γ id).off,rfl,ho.1,λ_=>⟨by simp[Gh.base,hn],h2.1⟩,h2.2⟩
 ·have hlen:((xs.drop o).take n).length=n:=by simp;omega
  by_cases h0:n=0
  ·subst h0;simp only[CR];exact qam
  ·obtain⟨hn,rfl⟩:=h3 h0;have h2':=ho.2;rw[if_neg (by simp[hn])]at h2';exact FRep.q38.2 ⟨_,c,(γ id).blk,(γ id).off+o*s,by rw[hlen],by rw[hlen];exact h2,λ_=>⟨rfl,h2'.1⟩,h2'.2.sub' o n⟩
theorem FzOk.rep{us:List (Key×Ent)}{s:SV}{x:FV}(hz:FzOk M us s x)(hf:qw M us)(h:Rel X (us++M) a w γ S){v:Value}(hv:SRep w S γ (hdOf (us++M)) s v):FRep w S x v/\x.flat=true/\v.oneCell'=true:=by
 cases hz with
 |nilS=>rw[hv.q8z];exact⟨qam,rfl,rfl⟩
 |fv hx =>
  cases hv with
  |fv hr =>
   refine⟨hr,hx,?_⟩;cases hr <;> first | rfl | exact hx | (simp[FV.flat]at hx)
  |tomb hs _=>simp[SV.refId]at hs
 |sl hm =>
  have:=frz_rep h (hf.mem hm) hv;rcases hv.q67 (hf.mem hm) rfl with⟨_,rfl⟩ | ⟨o,n,aa,c,q,_⟩
  ·exact⟨this,rfl,rfl⟩
  ·simp at q
 |view hm =>
  have:=frz_rep h (hf.mem hm) hv;rcases hv.q67 (hf.mem hm) rfl with⟨q,_⟩ | ⟨o,n,aa,c,q,rfl,_⟩
  ·simp at q
  ·exact⟨this,rfl,rfl⟩
theorem FzOk.mono{us vs:List (Key×Ent)}(hs:∀p,p∈us->p∈vs){s:SV}{x:FV}(h:FzOk M us s x):FzOk M vs s x:=by
 cases h with
 |nilS=>exact .nilS
 |fv h=>exact .fv h
 |sl h=>exact .sl (hs _ h)
 |view h=>exact .view (hs _ h)
theorem qdy{s:SV}{us:List (Key×Ent)}{f:FV->List (Key×Ent)->RT}(hg:Gets (frz1 s f) M us):∃x fz,qw M fz/\FzOk M fz s x/\Gets (f x fz) M us:=by
 unfold frz1 at hg;split at hg
 ·exact⟨_,[],qw.nil M,.nilS,hg⟩
 ·obtain⟨hx,hg⟩:=q16 hg;exact⟨_,[],qw.nil M,.fv hx,hg⟩
 ·rename_i id view;obtain⟨e,he,hg⟩:=q2y hg;split at hg
  ·rename_i s xs;split at hg
   ·exact⟨_,_,qw.cons (.inl he) (qw.nil M),.sl AF,hg⟩
   ·exact⟨_,_,qw.cons (.inl he) (qw.nil M),.view AF,hg⟩
  ·rename_i s xs;split at hg
   ·exact⟨_,_,qw.cons (.inr he) (qw.nil M),.sl AF,hg⟩
   ·exact⟨_,_,qw.cons (.inr he) (qw.nil M),.view AF,hg⟩
  ·exact(qh hg).elim
 ·exact(qh hg).elim
theorem qgd{us:List (Key×Ent)}:∀ {ss:List SV} {f:List FV->List (Key×Ent)->RT},Gets (frzs ss f) M us ->
  ∃xs fz,qw M fz/\xs.length=ss.length/\(∀(j:Nat) (s:SV),ss[j]?=some s->∃x,xs[j]?=some x/\FzOk M fz s x)/\Gets (f xs fz) M us
 |[],f,hg=>⟨[],[],qw.nil M,rfl,λj s h=>by simp at h,hg⟩
 |s::ss,f,hg=>by
  unfold frzs at hg;obtain⟨x,fz,h1,h2,hg⟩:=qdy hg;obtain⟨xs,fz',h3,h4,h5,hg⟩:=qgd hg;refine⟨x::xs,fz++fz',h1.app h3,by simp[h4],λj s' hj=>?_,hg⟩;cases j with
  |zero=>simp at hj;subst hj;exact⟨x,rfl,h2.mono λp hp=>Er _ hp⟩
  |succ j =>
   obtain⟨x',q1,q2⟩:=h5 j s' (by simpa using hj);exact⟨x',by simpa using q1,q2.mono λp hp=>DM _ hp⟩
theorem gets_frz{s:SV}{us:List (Key×Ent)}{f:FV->List (Key×Ent)->RT}(hg:Gets (frz s f) M us) :
  ∃x fz,qw M fz/\Gets (f x fz) M us/\(x.cells.length=s.cells.length/\∀c,c∈x.cells->c.flat=true)/\∀(S':Nat->Prop) (v:Value),Rel X (fz++M) a w γ S'->SRep w S' γ (hdOf (fz++M)) s v ->
   v.cells.size=s.cells.length/\∀(j:Nat) (c:FV),x.cells[j]?=some c->∃u,v.cells[j]?=some u/\FRep w S' c u/\u.oneCell'=true:=by
 unfold frz at hg;split at hg
 ·rename_i cs;obtain⟨xs,fz,h1,h2,h3,hg⟩:=qgd hg;refine⟨.agg xs,fz,h1,hg,⟨h2,λc hc=>?_⟩,λS' v hR hv=>?_⟩
  ·obtain⟨j,hj⟩:=Bt.1 hc;simp only[FV.cells]at hj;have hj':=(Ao.1 hj).1;obtain⟨x',q1,q2⟩:=h3 j cs[j] (Ag (by omega));rw[hj]at q1;cases q1;exact q2.flat
  obtain⟨vs,rfl,hl,hr⟩:=hv.qan;refine⟨hl,λj c hj=>?_⟩;simp only[FV.cells]at hj;have hj':=(Ao.1 hj).1;have hjs:j<cs.length:=by omega
  obtain⟨x',q1,q2⟩:=h3 j cs[j] (Ag hjs);rw[hj]at q1;cases q1;have:=q2.rep h1 hR (hr j cs[j] (Ag hjs));have hv':vs[j]?=some (vs.getD j undef):=by
   rw[Az,Bp (by omega),Bg]
  exact⟨_,hv',this.1,this.2.2⟩
 ·rename_i hs;obtain⟨x,fz,h1,h2,hg⟩:=qdy hg;have hsc:s.cells=[s]:=by cases s <;> first | rfl | exact absurd rfl (hs _)
  have hxc:x.cells=[x]:=by cases h2 with
   |fv h=>cases x <;> first | rfl | simp[FV.flat]at h
   |_=>rfl
  refine⟨x,fz,h1,hg,⟨by rw[hsc,hxc];rfl,λc hc=>by rw[hxc]at hc;simp at hc;subst hc;exact h2.flat⟩,λS' v hR hv=>?_⟩;obtain⟨q1,q2,q3⟩:=h2.rep h1 hR hv;have hvc:v.cells=#[v]:=by cases v <;> first | rfl | simp[Value.oneCell']at q3
  rw[hvc,hsc,hxc];refine⟨rfl,λj c hj=>?_⟩;cases j with
  |zero=>simp at hj;subst hj;exact⟨v,rfl,q1,q3⟩
  |succ j=>simp at hj
end
end
section
theorem qa1(id:Nat)(k:Key):∀(off:Nat) (vs:List SV),Mem.get k (wrCells id off vs)=match k with
  |.cell i j=>if i=id/\off<=j/\j<off+vs.length then(vs[j-off]?).map Ent.sv else none
  |_=>none
 |off,[]=>by cases k <;> simp[wrCells,Mem.get]
 |off,v::vs=>by
  rw[wrCells,Mem.qj,qa1 id k (off+1) vs];cases k with
  |slot t=>simp
  |head i=>simp
  |cell i j =>
   simp only[Key.cell.injEq,Aq];by_cases hi:i=id
   ·subst hi;by_cases hj:j=off
    ·subst hj;simp
    ·simp only[CX,hj,BH];by_cases h1:off+1<=j/\j<off+1+vs.length
     ·rw[if_pos h1,if_pos (by omega)];obtain⟨q,rfl⟩:∃q,j=off+1+q:=⟨j-(off+1),by omega⟩;rw[show off+1+q-(off+1)=q by omega,show off+1+q-off=q+1 by omega,AO]
     ·rw[if_neg h1,if_neg (by omega)]
   ·simp[hi]
theorem qah(id i j off:Nat)(vs:List SV):Mem.get (.cell i j) (wrCells id off vs)=if i=id/\off<=j/\j<off+vs.length then(vs[j-off]?).map Ent.sv else none:=qa1 id (.cell i j) off vs
theorem get_wrH(id i off:Nat)(vs:List SV):Mem.get (.head i) (wrCells id off vs)=none:=qa1 id (.head i) off vs
theorem get_wrS(id t off:Nat)(vs:List SV):Mem.get (.slot t) (wrCells id off vs)=none:=qa1 id (.slot t) off vs
theorem qgv(cur:List Value)(p:Nat)(news:List Value)(h:p+news.length<=cur.length)(k:Nat) :
  (cur.take p++news++cur.drop (p+news.length))[k]?=if p<=k/\k<p+news.length then news[k-p]? else cur[k]?:=by
 by_cases h1:k<p
 ·rw[if_neg (by omega),Ap,Da (by simp;omega),CN h1]
 ·by_cases h2:k<p+news.length
  ·rw[if_pos ⟨by omega,h2⟩,Ap,CT (by simp;omega),Da (by simp;omega)];congr 1;simp;omega
  ·rw[if_neg (by omega),CT (by simp;omega),CA];congr 1;simp;omega
section
variable {E:Env} {call:FuncId->List FV->Res} {X:Cx} {M:Mem} {a:Act} {w:World} {γ:Nat->Gh} {S:Nat->Prop} {us:List (Key×Ent)} {o:Oper}
theorem qdi:∀ {vs:List SV} {t:RT},Gets (lives vs t) M us->(∀s,s∈vs->∀id,s.refId=some id->∃e,hdOf M id=some e/\e≠.tomb)/\Gets t M us
 |[],t,h=>⟨λs hs=>by simp at hs,h⟩
 |v::vs,t,h=>by
  have key:∀id,v.refId=some id->Gets (q34 id λe=>match e with | .tomb=>.fail | _=>lives vs t) M us->(∃e,hdOf M id=some e/\e≠.tomb)/\Gets (lives vs t) M us:=by
   intro id _ hg;obtain⟨e,he,hg⟩:=q2y hg;cases e with
   |tomb=>exact(qh hg).elim
   |_=>exact⟨⟨_,he,by simp⟩,hg⟩
  have fin:(∀id,v.refId=some id->∃e,hdOf M id=some e/\e≠.tomb)->Gets (lives vs t) M us->(∀s,s∈v::vs->∀id,s.refId=some id->∃e,hdOf M id=some e/\e≠.tomb)/\Gets t M us:=by
   intro h1 h2;obtain⟨h3,h4⟩:=qdi h2;refine⟨λs hs id hid=>?_,h4⟩;rcases Ar.1 hs with rfl | hs
   ·exact h1 id hid
   ·exact h3 s hs id hid
  unfold lives at h;cases v with
  |ptr id _=>obtain⟨h1,h2⟩:=key id rfl h;exact fin (λi hi=>by simp[SV.refId]at hi;subst hi;exact h1) h2
  |ept id _ _ _=>obtain⟨h1,h2⟩:=key id rfl h;exact fin (λi hi=>by simp[SV.refId]at hi;subst hi;exact h1) h2
  |sl id _=>obtain⟨h1,h2⟩:=key id rfl h;exact fin (λi hi=>by simp[SV.refId]at hi;subst hi;exact h1) h2
  |mp id=>obtain⟨h1,h2⟩:=key id rfl h;exact fin (λi hi=>by simp[SV.refId]at hi;subst hi;exact h1) h2
  |_=>exact fin (λi hi=>by simp[SV.refId]at hi) h
theorem qme{hd:Nat->Option Ent}{s:SV}{v:Value}(h:SRep w S γ hd s v)(hf:s.flat=true)(hl:∀id,s.refId=some id->∃e,hd id=some e/\e≠.tomb):v.oneCell'=true:=by
 cases h with
 |fv hr=>cases hr <;> first | rfl | exact hf | (simp[SV.flat,FV.flat]at hf)
 |tomb h1 h2=>obtain⟨e,h3,h4⟩:=hl _ h1;rw[h2]at h3;cases h3;exact absurd rfl h4
 |agg _ _=>simp[SV.flat]at hf
 |tup _ _=>simp[SV.flat]at hf
 |dead=>simp[SV.flat]at hf
 |gone=>simp[SV.flat]at hf
 |_=>rfl
theorem qfu{hd:Nat->Option Ent}{s:SV}{v:Value}(h:SRep w S γ hd s v)(hf:s.cells.all SV.flat=true)(hl:∀c,c∈s.cells->∀id,c.refId=some id->∃e,hd id=some e/\e≠.tomb) :
  v.cells.size=s.cells.length/\(∀(j:Nat) (c:SV),s.cells[j]?=some c->c.flat=true/\SRep w S γ hd c (v.cells.getD j undef))/\∀u∈v.cells.toList,u.oneCell'=true:=by
 have hall:=Au.1 hf;by_cases hs:∃cs,s=.agg cs
 ·obtain⟨cs,rfl⟩:=hs;obtain⟨vs,rfl,h1,h2⟩:=h.qan;refine⟨h1,λj c hj=>⟨hall c (AS hj),h2 j c hj⟩,λu hu=>?_⟩;have hu':u∈vs.toList:=hu;obtain⟨j,hju⟩:=Bt.1 hu';have hj:=(Ao.1 hju).1;simp only[Bw]at hj;have hjc:j<cs.length:=by rw[<- h1];exact hj
  have hc:(SV.agg cs).cells[j]?=some cs[j]:=Ag hjc;have:=h2 j cs[j] hc;rw[Az,<- By,hju,Bg]at this;exact qme this (hall _ (AS hc)) (hl _ (AS hc))
 ·have hsc:s.cells=[s]:=by cases s <;> first | rfl | exact absurd ⟨_,rfl⟩ hs
  rw[hsc]at hf hl ⊢;have hone:=qme h (by simpa using hf) (hl s (by simp));have hvc:v.cells=#[v]:=by cases v <;> first | rfl | simp[Value.oneCell']at hone
  rw[hvc];refine⟨rfl,λj c hj=>?_,λu hu=>by simp at hu;subst hu;exact hone⟩;cases j with
  |zero=>simp at hj;subst hj;exact⟨by simpa using hf,h⟩
  |succ j=>simp at hj
theorem sim_store{t:TypeId}{x y:Operand}(hE:q15 E)(h:Rel X M a w γ S)(hop:o.op=.store t x y)(hdst:o.dst=none)(hg0:Gets (rtOp E call o) M us):Goal E.P X M o a w us:=by
 simp only[rtOp,hop]at hg0;obtain⟨ti,inf,d,z,hT,hg1⟩:=q3p hE hg0;obtain⟨s,hs,hg2⟩:=q1k h hg1;obtain⟨r,hr,hg⟩:=q1k h hg2;clear hg0 hg1 hg2;have run:∀b p w',a.eval x=.pointer (some ⟨b,p,none⟩)->(storeVar t ⟨b,p,none⟩ (a.eval y)).run E.P w=.ok () w'->(execOp a.eval o).run E.P w=.ok .skip w':=λb p w' h1 h2=>by
  simp[execOp,hop,Instr.storeAt,h1,Instr.sureAddr,h2]
 unfold store at hg;split at hg
 ·rename_i id off;obtain⟨e,he,hg⟩:=q2y hg;split at hg
  ·rename_i n;obtain⟨hb,hg⟩:=q16 hg;simp only[Ai]at hb;obtain⟨⟨hle,hlen⟩,hflat⟩:=hb;have hle':=Bz hle;have hlen':=Aw hlen;obtain⟨hlv,hg⟩:=qdi hg;obtain rfl:=q2w hg;have hv:=hs.qbr he;obtain⟨hnil,vals,te,hb,hsz,hc⟩:=h.head id _ he;obtain⟨c1,c2,c3⟩:=qfu hr hflat hlv;have hrun:=qmf hT (w:=w) (b:=(γ id).blk) (p:=off) (v:=a.eval y) (cur:=vals) (by rw[c1,hlen']) hb (by omega) c3;refine .skip (γ':=γ) (S':=S) (run _ _ _ hv hrun) ?_;rw[hdst];have hM:q43 id M (wrCells id off r.cells++M):=by
    refine⟨λi hi=>by simp[hdOf,Mem.get_append,qa1],λi j hi=>?_,λt=>by simp[Mem.get_append,qa1]⟩;rw[Mem.get_append,qah,if_neg (λh=>hi h.1)];rfl
   have hhd:hdOf (wrCells id off r.cells++M)=hdOf M:=funext λi=>by simp[hdOf,Mem.get_append,qa1]
   refine h.change hM he trivial (by rw[hhd];exact he) ⟨rfl,rfl,by simp⟩ (But.setRow _ _ _) (λhh=>⟨hnil,_,te,setRow_heap w _ vals _ te _ hb,?_,λj hj=>?_⟩) trivial
   ·simp;omega
   ·have own:=h.own id _ he trivial;have hw:=h.toHRel.q8m (But.setRow w (γ id).blk (vals.toList.take off++(a.eval y).cells.toList++vals.toList.drop (off+ti.size)).toArray) own.2.1;have hget:(vals.toList.take off++(a.eval y).cells.toList++vals.toList.drop (off+ti.size)).toArray.getD j undef=if off<=j/\j<off+ti.size then(a.eval y).cells.getD (j-off) undef else vals.getD j undef:=by
     have:=qgv vals.toList off (a.eval y).cells.toList (by simp[c1];omega) j;simp only[Bw,c1,hlen']at this;rw[Az,Dy,this];split <;> simp[Az]
    rw[hget];by_cases hin:off<=j/\j<off+ti.size
    ·rw[if_pos hin];have hjc:j-off<r.cells.length:=by omega
     obtain⟨q1,q2⟩:=c2 (j-off) r.cells[j-off] (Ag hjc);refine⟨r.cells[j-off],?_,q1,q2.mono hw (λ_ h=>h) hh⟩;rw[Mem.get_append,qah,if_pos ⟨rfl,hin.1,by omega⟩,Ag hjc];rfl
    ·rw[if_neg hin];obtain⟨s',q1,q2,q3⟩:=hc j hj;refine⟨s',?_,q2,q3.mono hw (λ_ h=>h) hh⟩;rw[Mem.get_append,qah,if_neg (by omega),q1];rfl
  ·exact(qh hg).elim
 ·rename_i id sz i c;obtain⟨e,he,hg⟩:=q2y hg;split at hg
  ·rename_i s' xs;obtain⟨hb,hg⟩:=q16 hg;simp only[Ai]at hb;obtain⟨hsz0,hlen⟩:=hb;have hlen':=Aw hlen;obtain⟨hv,rfl,hi,hn⟩:=hs.qbs he rfl;have hvec:=h.head id _ he;exact storeElem hT h he hn hi hlen' hr hdst (λw' hw'=>run _ _ w' hv hw') hg
  ·exact(qh hg).elim
 ·exact(qh hg).elim
where
 storeElem {t:TypeId} {ti:TyI} {inf:TypeInfo} {d:TypeDesc} {z:Value} (hT:TyOk E.P t ti inf d z) (h:Rel X M a w γ S) {id sz i c:Nat} {xs:List FV} (he:hdOf M id=some (.vec sz xs)) (hn:(γ id).nil=false) (hi:i<xs.length)
   {r:SV} {y:Operand} (hlen:r.cells.length=ti.size) (hr:SRep w S γ (hdOf M) r (a.eval y)) (hdst:o.dst=none)
   (run:∀w',(storeVar t ⟨(γ id).blk,(γ id).off+(i*sz+c),none⟩ (a.eval y)).run E.P w=.ok () w'->(execOp a.eval o).run E.P w=.ok .skip w')
   (hg:Gets (bif Nat.beq c 0&&Nat.beq ti.size sz then frz r λy us=>bif apart1 id us then .ret ((.head id,.vec sz (xs.set i y))::us)else .fail
     else bif Nat.beq ti.size 1&&Nat.ble (c+1) sz&&!ti.agg then frz1 r λy us=>bif apart1 id us then .ret ((.head id,.vec sz (setC xs i c y))::us)else .fail else .fail) M us):Goal E.P X M o a w us:=by
  have both:∀(fz:List (Key×Ent)) (x':FV),qw M fz->apart1 id fz=true->us=(.head id,.vec sz (xs.set i x'))::fz->El sz x' ->
    (∀S',(∀b,S b->S' b)->Rel X (fz++M) a w γ S'->(a.eval y).cells.size=ti.size/\(∀u∈(a.eval y).cells.toList,u.oneCell'=true)/\c+ti.size<=sz /\
     ∀(j:Nat) (e:FV),x'.cells[j]?=some e->if c<=j/\j<c+ti.size then ∃u,(a.eval y).cells[j-c]?=some u/\FRep w S' e u else ∃x0,xs[i]?=some x0/\x0.cells[j]?=some e)->Goal E.P X M o a w us:=by
   intro fz x' hfz hap hus hx' hall;subst hus;obtain⟨S',k1,k2,hR⟩:=h.q8p hfz;obtain⟨a1,a2,a3,a4⟩:=hall S' k1 hR;have hap':hdOf (fz++M) id=some (.vec sz xs):=by
    rcases hfz.get (.head id)with⟨q,_⟩ | ⟨id',s0,xs0,q1,q2,q3⟩
    ·rw[hdOf,q];exact he
    ·cases q1;exfalso;have:∀(l:List (Key×Ent)),apart1 id l=true->qw M l->Mem.get (.head id) (l++M)=some (.vec sz xs):=by
      intro l
      induction l with
      |nil=>intro _ _;exact he
      |cons p l ih =>
       intro h1 h2;obtain⟨i',s1,x1,rfl,_⟩:=h2 _ AF;simp only[apart1,Ai,Ch]at h1;rw[Al,Mem.qj,if_neg]
       ·exact ih h1.2 h2.tail
       ·intro hk;cases hk;have:=h1.1;simp at this
     rw[this fz hap hfz]at q2;cases q2
   have own:=hR.own id _ hap' hn;have ho:=hR.head id _ hap';obtain⟨hcap,ho⟩:=ho;rw[if_neg (by simp[hn])]at ho;obtain⟨vals,te,hb,hsize,hrow⟩:=ho;have hin:(i+1)*sz<=(γ id).cap*sz:=AR _ (by omega);have hin':i*sz+sz<=(γ id).cap*sz:=by rwa[AT,Cf]at hin
   have hrun:=qmf hT (w:=w) (b:=(γ id).blk) (p:=(γ id).off+(i*sz+c)) (v:=a.eval y) (cur:=vals) a1 hb (by omega) a2;refine .skip (γ':=γ) (S':=S') (run _ hrun) ?_;rw[hdst];have hM:q43 id (fz++M) ((.head id,.vec sz (xs.set i x'))::(fz++M)) :=
    ⟨λi' hi'=>by rw[hdOf,hdOf,Mem.qj,if_neg (by simpa using hi')],λi' j hi'=>by rw[Mem.qj,if_neg (by simp)],λt=>by rw[Mem.qj,if_neg (by simp)]⟩
   have hw:=hR.toHRel.q8m (But.setRow w (γ id).blk (vals.toList.take ((γ id).off+(i*sz+c))++(a.eval y).cells.toList++vals.toList.drop ((γ id).off+(i*sz+c)+ti.size)).toArray) own.2.1;refine hR.change (M':=(.head id,.vec sz (xs.set i x'))::(fz++M)) (e':=.vec sz (xs.set i x')) hM hap' hn (by rw[hdOf,Mem.qj,if_pos rfl]) ⟨by simp[Ent.row],rfl,by simp⟩ (But.setRow _ _ _) (λhh=>⟨by simpa using hcap,?_⟩) hn;rw[if_neg (by simp[hn])];refine⟨_,te,setRow_heap w _ vals _ te _ hb,by simp;omega,λx hx=>?_,λi' j x e h1 h2=>?_⟩
   ·rcases Dz hx with hx | rfl
    ·exact hrow.1 x hx
    ·exact hx'
   ·rw[q5l (setRow_heap w _ vals _ te _ hb),Dy];have hsp:=qgv vals.toList ((γ id).off+(i*sz+c)) (a.eval y).cells.toList (by simp[a1];omega) ((γ id).off+(i'*sz+j));simp only[Bw,a1]at hsp;rw[hsp];have old:∀x0,xs[i']?=some x0->x0.cells[j]?=some e->¬ ((γ id).off+(i*sz+c)<=(γ id).off+(i'*sz+j)/\(γ id).off+(i'*sz+j)<(γ id).off+(i*sz+c)+ti.size) ->
      ∃v,(if(γ id).off+(i*sz+c)<=(γ id).off+(i'*sz+j)/\(γ id).off+(i'*sz+j)<(γ id).off+(i*sz+c)+ti.size then(a.eval y).cells.toList[(γ id).off+(i'*sz+j)-((γ id).off+(i*sz+c))]? else vals.toList[(γ id).off+(i'*sz+j)]?)=some v/\FRep (w.setRow (γ id).blk (vals.toList.take ((γ id).off+(i*sz+c))++(a.eval y).cells.toList++vals.toList.drop ((γ id).off+(i*sz+c)+ti.size)).toArray) S' e v:=by
     intro x0 q1 q2 q3;rw[if_neg q3];obtain⟨v,q4,q5⟩:=hrow.2 i' j x0 e q1 q2;rw[q5l hb]at q4;exact⟨v,by simpa using q4,q5.mono hw (λ_ h=>h)⟩
    have hj:j<sz:=by
     have hx0:x.cells.length=sz:=by
      rcases Dz (AS h1)with hx | rfl
      ·exact(hrow.1 x hx).1
      ·exact hx'.1
     have:=(Ao.1 h2).1;omega
    by_cases hii:i'=i
    ·subst hii;rw[Fl hi]at h1;cases h1;have:=a4 j e h2;by_cases hin2:c<=j/\j<c+ti.size
     ·rw[if_pos hin2]at this;obtain⟨u,q1,q2⟩:=this;rw[if_pos (by omega)];exact⟨u,by rw[show(γ id).off+(i'*sz+j)-((γ id).off+(i'*sz+c))=j-c by omega];simpa using q1,q2.mono hw (λ_ h=>h)⟩
     ·rw[if_neg hin2]at this;obtain⟨x0,q1,q2⟩:=this;exact old x0 q1 q2 (by omega)
    ·rw[Fm (BO hii)]at h1;refine old x h1 h2 ?_;rcases ES hii with hlt | hgt
     ·have:=AR sz (show i'+1<=i by omega);rw[AT,Cf]at this;omega
     ·have:=AR sz (show i+1<=i' by omega);rw[AT,Cf]at this;omega
  cases hc1:(Nat.beq c 0&&Nat.beq ti.size sz)with
  |true =>
   rw[hc1]at hg;simp only[Ac]at hg;simp only[Ai]at hc1;have hc0:=Aw hc1.1;have hts:=Aw hc1.2;obtain⟨x',fz,hfz,hg,hl,hrep⟩:=gets_frz (X:=X) (a:=a) (w:=w) (γ:=γ) hg;obtain⟨hap,hg⟩:=q16 hg;refine both fz x' hfz hap (q2w hg) ⟨by rw[hl.1,hlen,hts],hl.2⟩ λS' hS hR=>?_;obtain⟨q1,q2⟩:=hrep S' _ hR (hr.mono (λ_ _=>rfl) hS hfz.hdLe);have hxl:x'.cells.length=sz:=by rw[hl.1,hlen,hts]
   refine⟨by rw[q1,hlen],λu hu=>?_,by omega,λj e hj=>?_⟩
   ·obtain⟨j,hj⟩:=Bt.1 hu;have hjl:=(Ao.1 hj).1;simp only[Bw]at hjl;obtain⟨u',r1,r2,r3⟩:=q2 j x'.cells[j] (Ag (by omega));rw[By,r1]at hj;cases hj;exact r3
   ·have hjl:=(Ao.1 hj).1;rw[if_pos ⟨by omega,by omega⟩];obtain⟨u',r1,r2,r3⟩:=q2 j e hj;exact⟨u',by rw[hc0];exact r1,r2⟩
  |false =>
   rw[hc1]at hg;simp only[Ab]at hg;obtain⟨hb2,hg⟩:=q16 hg;simp only[Ai,Ch]at hb2;obtain⟨⟨hts,hcs⟩,hagg⟩:=hb2;have hts':=Aw hts;have hcs':=Bz hcs;obtain⟨x0,fz,hfz,hok,hg⟩:=qdy hg;obtain⟨hap,hg⟩:=q16 hg;obtain⟨xi,hxi⟩:∃xi,xs[i]?=some xi:=⟨_,Ag hi⟩;have hvec:=(h.head id _ he).2;rw[if_neg (by simp[hn])]at hvec;obtain⟨_,_,_,_,hrow⟩:=hvec;have hxiE:=hrow.1 xi (AS hxi);have hxil:=hxiE.1;obtain⟨cs,rfl⟩:∃cs,xi=.agg cs:=by
    cases xi with
    |agg cs=>exact⟨cs,rfl⟩
    |_ =>
     simp only[FV.cells,Aq,Bf]at hxil;have:c=0:=by omega
     subst this;rw[hts',<- hxil]at hc1;simp at hc1
   have hset:setC xs i c x0=xs.set i (.agg (cs.set c x0)):=by simp[setC,hxi]
   rw[hset]at hg;have hcl:cs.length=sz:=hxil
   refine both fz (.agg (cs.set c x0)) hfz hap (q2w hg) ⟨by simpa[FV.cells]using hcl,λe he=>by
     rcases Dz he with he | rfl
     ·exact hxiE.2 e he
     ·exact hok.flat⟩ λS' hS hR=>?_
   obtain⟨q1,q2,q3⟩:=hok.rep hfz hR (hr.mono (λ_ _=>rfl) hS hfz.hdLe);have hvc:(a.eval y).cells=#[a.eval y]:=by
    generalize a.eval y=v at q3;cases v <;> first | rfl | simp[Value.oneCell']at q3
   rw[hvc,hts'];refine⟨rfl,λu hu=>by simp at hu;subst hu;exact q3,hcs',λj e hj=>?_⟩;simp only[FV.cells]at hj;by_cases hjc:j=c
   ·subst hjc;rw[if_pos ⟨by omega,by omega⟩];rw[Fl (by omega)]at hj;cases hj;exact⟨_,by simp,q1⟩
   ·rw[if_neg (by omega)];rw[Fm (BO hjc)]at hj;exact⟨_,hxi,hj⟩
end
end
section
section
variable {E:Env} {call:FuncId->List FV->Res} {X:Cx} {M:Mem} {a:Act} {w:World} {γ:Nat->Gh} {S:Nat->Prop} {us:List (Key×Ent)} {o:Oper}
theorem But.alloc(w:World)(ob:Obj):But w.heap.size w (w.alloc ob):=But.new w ob
theorem qdh(w:World)(ob:Obj):(w.alloc ob).heap[w.heap.size]?=some ob:=heap_alloc_new w ob
theorem Rel.newObj(h:Rel X M a w γ S){d:Nat}(hd:X.Dst d)(hf:hdOf M d=none){cs:List SV}{vals:Array Value}{t:TypeId}(hl:vals.size=cs.length)
  (hc:∀(j:Nat) (c:SV),cs[j]?=some c->c.flat=true/\SRep w S γ (hdOf M) c (vals.getD j undef)) :
  Rel X (((.slot d,.sv (.ptr d 0))::(.head d,.obj cs.length)::wrCells d 0 cs)++M) (a.put (some d) (.pointer (some ⟨w.heap.size,0,none⟩))) (w.alloc (.cells vals t (0,0))) (Gh.upd γ d ⟨w.heap.size,0,0,false⟩) S:=by
 have hM:q43 d M (((.head d,.obj cs.length)::wrCells d 0 cs)++M):=by
  refine⟨λi hi=>?_,λi j hi=>?_,λt=>?_⟩
  ·rw[hdOf,hdOf,Al,Mem.qj,if_neg (by simpa using hi),Mem.get_append,get_wrH];rfl
  ·rw[Al,Mem.qj,if_neg (by simp),Mem.get_append,qah,if_neg (λq=>hi q.1)];rfl
  ·rw[Al,Mem.qj,if_neg (by simp),Mem.get_append,get_wrS];rfl
 have he:hdOf (((.head d,.obj cs.length)::wrCells d 0 cs)++M) d=some (.obj cs.length):=by rw[hdOf,Al,Mem.qj,if_pos rfl]
 have hb:But w.heap.size w (w.alloc (.cells vals t (0,0))):=But.alloc w _;have hS:¬ S w.heap.size:=λhq=>EV _ (h.keep.bound _ hq)
 have hR:=h.gain (g:=⟨w.heap.size,0,0,false⟩) hf hM he hb hS (λi e h1 h2 hq=>by have:=(h.own i e h1 h2).1;simp only at hq;omega) (by simp) (.inr h.keep.size) (λhh=>by
  have hw:=h.toHRel.q8m hb hS;refine⟨by rw[Gh.q32],vals,t,by rw[Gh.q32];exact qdh w _,hl,λj hj=>?_⟩;obtain⟨q1,q2⟩:=hc j cs[j] (Ag hj)
  exact⟨cs[j],by rw[Al,Mem.qj,if_neg (by simp),Mem.get_append,qah,if_pos ⟨rfl,BP _,by omega⟩,Em,Ag hj];rfl,q1,q2.mono hw (λ_ h=>h) hh⟩)
 have:=hR.put hd (s:=.ptr d 0) (v:=.pointer (some ⟨w.heap.size,0,none⟩)) (by
  have:=SRep.ptr (w:=w.alloc (.cells vals t (0,0))) (S:=S) (γ:=Gh.upd γ d ⟨w.heap.size,0,0,false⟩) (off:=0) he rfl
  rwa[Gh.q32]at this)
 exact this
theorem Rel.newVec(h:Rel X M a w γ S){d:Nat}(hd:X.Dst d)(hf:hdOf M d=none){sz cap:Nat}{xs:List FV}{vals:Array Value}{t:TypeId}(hc:xs.length<=cap)(hl:cap*sz<=vals.size)
  (hsz:∀x,x∈xs->El sz x) (hr:∀(i j:Nat) (x c:FV),xs[i]?=some x->x.cells[j]?=some c->∃v,vals[i*sz+j]?=some v/\FRep w S c v) :
  Rel X ((.slot d,.sv (.sl d none))::(.head d,.vec sz xs)::M) (a.put (some d) (.slice (some ⟨w.heap.size,0,none⟩) xs.length cap)) (w.alloc (.cells vals t (0,0))) (Gh.upd γ d ⟨w.heap.size,0,cap,false⟩) S:=by
 have hM:q43 d M ((.head d,.vec sz xs)::M):=by
  refine⟨λi hi=>?_,λi j hi=>?_,λt=>?_⟩
  ·rw[hdOf,hdOf,Mem.qj,if_neg (by simpa using hi)]
  ·rw[Mem.qj,if_neg (by simp)]
  ·rw[Mem.qj,if_neg (by simp)]
 have he:hdOf ((.head d,.vec sz xs)::M) d=some (.vec sz xs):=by rw[hdOf,Mem.qj,if_pos rfl]
 have hb:But w.heap.size w (w.alloc (.cells vals t (0,0))):=But.alloc w _;have hS:¬ S w.heap.size:=λhq=>EV _ (h.keep.bound _ hq)
 have hR:=h.gain (g:=⟨w.heap.size,0,cap,false⟩) hf hM he hb hS (λi e h1 h2 hq=>by have:=(h.own i e h1 h2).1;simp only at hq;omega) (by simp) (.inr h.keep.size) (λhh=>by
  have hw:=h.toHRel.q8m hb hS;refine⟨by rw[Gh.q32];exact hc,?_⟩;rw[Gh.q32,if_neg (by simp)];refine⟨vals,t,qdh w _,by simpa using hl,hsz,λi j x c h1 h2=>?_⟩;obtain⟨v,h3,h4⟩:=hr i j x c h1 h2
  exact⟨v,by rw[q5l (qdh w _),AJ];exact h3,h4.mono hw (λ_ h=>h)⟩)
 exact hR.put hd (s:=.sl d none) (by
  have:=SRep.sl (w:=w.alloc (.cells vals t (0,0))) (S:=S) (γ:=Gh.upd γ d ⟨w.heap.size,0,cap,false⟩) he (sz:=sz) (len:=xs.length) rfl
  rwa[Gh.q32]at this)
theorem qjg{t:TypeId}{ti:TyI}{inf:TypeInfo}{d:TypeDesc}{z:Value}(hT:TyOk E.P t ti inf d z)(hd:Nat->Option Ent) :
  z.cells.size=ti.q7o.length/\∀(j:Nat) (c:SV),ti.q7o[j]?=some c->c.flat=true/\SRep w S γ hd c (z.cells.getD j undef):=by
 have hl:=qai hT.q2c;refine⟨by simp[TyI.q7o];simpa using hl,λj c hj=>?_⟩;simp only[TyI.q7o,Bq,BX]at hj;obtain⟨k,hk,rfl⟩:=hj;obtain⟨v,h1,h2,h3,h4⟩:=q9f (w:=w) (S:=S) hT.q2c j k hk;have hq:z.cells.getD j undef=v:=by rw[Az,<- By,h1,Bg]
 rw[hq];refine⟨?_,h3 _ _⟩;cases k with
 |raw u =>
  have h5:=h2;simp only[CK.zero]at h5;cases h5;simpa[CK.zeroS,SV.flat,FV.flat,CK.zero]using h4
 |_=>rfl
theorem sim_alloc{t:TypeId}(hE:q15 E)(h:Rel X M a w γ S)(hd:∀d,o.dst=some d->X.Dst d)(hop:o.op=.alloc t)(hg0:Gets (rtOp E call o) M us):Goal E.P X M o a w us:=by
 simp only[rtOp,hop]at hg0;obtain⟨ti,inf,dd,z,hT,hg⟩:=q3p hE hg0;clear hg0;split at hg
 ·rename_i d hdst;obtain⟨hf,hg⟩:=q7p hg;obtain rfl:=q2w hg;obtain⟨h1,h2⟩:=qjg (w:=w) (S:=S) (γ:=γ) hT (hdOf M);have hlen:ti.q7o.length=ti.size:=by simp[TyI.q7o,hT.len]
  have hr:(execOp a.eval o).run E.P w=.ok (.value (.pointer (some ⟨w.heap.size,0,none⟩))) (w.alloc (.cells z.cells t (0,0))):=by
   simp[execOp,hop,Instr.alloc,hT.runZ,newVar,newRow]
  have:=h.newObj (hd d hdst) hf (t:=t) h1 h2;rw[hlen]at this;exact .value hr (by rw[hdst];exact this)
 ·exact(qh hg).elim
theorem sim_box{t:TypeId}{x:Operand}(hE:q15 E)(h:Rel X M a w γ S)(hd:∀d,o.dst=some d->X.Dst d)(hop:o.op=.box t x)(hg0:Gets (rtOp E call o) M us):Goal E.P X M o a w us:=by
 simp only[rtOp,hop]at hg0;obtain⟨ti,inf,dd,z,hT,hg1⟩:=q3p hE hg0;obtain⟨s,hs,hg⟩:=q1k h hg1;clear hg0 hg1;split at hg
 ·rename_i d hdst;obtain⟨hb,hg⟩:=q16 hg;simp only[Ai]at hb;obtain⟨hlv,hg⟩:=qdi hg;obtain⟨hf,hg⟩:=q7p hg;obtain rfl:=q2w hg;obtain⟨c1,c2,c3⟩:=qfu hs hb.2 hlv;have hlen:=Aw hb.1;have hr:(execOp a.eval o).run E.P w=.ok (.value (.pointer (some ⟨w.heap.size,0,none⟩))) (w.alloc (.cells (a.eval x).cells t (0,0))):=by
   simp[execOp,hop,Instr.box,newVar,newRow]
  have:=h.newObj (hd d hdst) hf (t:=t) c1 c2;rw[hlen]at this;exact .value hr (by rw[hdst];exact this)
 ·exact(qh hg).elim
end
end
section
def RowA(w:World)(S:Nat->Prop)(cur:Array Value)(sz:Nat)(xs:List FV):Prop :=
 (∀x,x∈xs->El sz x)/\∀(i j:Nat) (x c:FV),xs[i]?=some x->x.cells[j]?=some c->∃v,cur[i*sz+j]?=some v/\FRep w S c v
theorem qh4(off k:Nat):∀(l:List Value) (n:Nat) (cur:Array Value),off+n+l.length<=cur.size ->
  ((l.zipIdx n).foldl (λcs p=>cs.setIfInBounds (off+p.2) p.1) cur)[k]?=if off+n<=k/\k<off+n+l.length then l[k-(off+n)]? else cur[k]?
 |[],n,cur,h=>by simp;omega
 |v::l,n,cur,h=>by
  rw[List.zipIdx_cons,Be,qh4 off k l (n+1) _ (by simp at h ⊢;omega)];simp only[Aq]at h ⊢;by_cases h1:k=off+n
  ·subst h1;rw[if_neg (by omega),if_pos (by omega),DZ (by omega)];simp
  ·rw[DD (BO h1)];by_cases h2:off+(n+1)<=k/\k<off+(n+1)+l.length
   ·rw[if_pos h2,if_pos (by omega)];obtain⟨q,rfl⟩:∃q,k=off+(n+1)+q:=⟨k-(off+(n+1)),by omega⟩;rw[show off+(n+1)+q-(off+(n+1))=q by omega,show off+(n+1)+q-(off+n)=q+1 by omega,AO]
   ·rw[if_neg h2,if_neg (by omega)]
theorem qe8(off:Nat):∀(l:List Value) (n:Nat) (cur:Array Value),((l.zipIdx n).foldl (λcs p=>cs.setIfInBounds (off+p.2) p.1) cur).size=cur.size
 |[],n,cur=>rfl
 |v::l,n,cur=>by rw[List.zipIdx_cons,Be,qe8 off l (n+1)];simp
theorem ql7(place:Nat->Option (Nat×Nat))(cur:Array Value)(i:Nat)(v:Value)(rest:List (Nat×Value)){off size:Nat}(hp:place i=some (off,size))(h1:v.cells.size=size)(h2:off+size<=cur.size) :
  Instr.fill place cur ((i,v)::rest)=Instr.fill place ((v.cells.toList.zipIdx 0).foldl (λcs p=>cs.setIfInBounds (off+p.2) p.1) cur) rest:=by
 have h3:¬ (v.cells.size≠size||off+v.cells.size>cur.size)=true:=by simp[h1];omega
 simp only[Instr.fill,hp];rw[if_neg h3];congr 1;rw[<- EN,Array.toList_zipIdx]
theorem RowA.fill{w:World}{S:Nat->Prop}{sz:Nat}:∀ {ps:List (Nat×Value)} {fs:List (Nat×FV)} {cur:Array Value} {xs:List FV},RowA w S cur sz xs->xs.length*sz<=cur.size->fs.length=ps.length ->
  (∀(k:Nat) (p:Nat×Value),ps[k]?=some p->∃x,fs[k]?=some (p.1,x)/\p.1<xs.length/\El sz x/\p.2.cells.size=sz/\∀(j:Nat) (c:FV),x.cells[j]?=some c->∃u,p.2.cells[j]?=some u/\FRep w S c u) ->
  ∃cur',Instr.fill (λi=>some (i*sz,sz)) cur ps=some cur'/\cur'.size=cur.size/\RowA w S cur' sz (fs.foldl (λl p=>l.set p.1 p.2) xs)
 |[],[],cur,xs,h,hl,hlen,hp=>⟨cur,rfl,rfl,h⟩
 |[],_::_,cur,xs,h,hl,hlen,hp=>by simp at hlen
 |p::ps,[],cur,xs,h,hl,hlen,hp=>by simp at hlen
 |p::ps,f::fs,cur,xs,h,hl,hlen,hp=>by
  obtain⟨x,h1,h2,h3,h4,h5⟩:=hp 0 p rfl;simp only[Aj,AH]at h1;subst h1;have hin:=AR sz (show p.1+1<=xs.length by omega);rw[AT,Cf]at hin;have hstep:=ql7 (λi=>some (i*sz,sz)) cur p.1 p.2 ps rfl h4 (by omega);have hR:RowA w S ((p.2.cells.toList.zipIdx 0).foldl (λcs q=>cs.setIfInBounds (p.1*sz+q.2) q.1) cur) sz (xs.set p.1 x):=by
   refine⟨λy hy=>?_,λi j y c hi hj=>?_⟩
   ·rcases Dz hy with hy | rfl
    ·exact h.1 y hy
    ·exact h3
   ·rw[qh4 (p.1*sz) (i*sz+j) p.2.cells.toList 0 cur (by simp[h4];omega)];simp only[Ay,Bw,h4];have hjl:j<sz:=by
     have:y.cells.length=sz:=by
      rcases Dz (AS hi)with hy | rfl
      ·exact(h.1 y hy).1
      ·exact h3.1
     have:=(Ao.1 hj).1;omega
    by_cases hip:i=p.1
    ·subst hip;rw[Fl h2]at hi;cases hi;rw[if_pos (by omega)];obtain⟨u,q1,q2⟩:=h5 j c hj;exact⟨u,by rw[show p.1*sz+j-p.1*sz=j by omega];simpa using q1,q2⟩
    ·rw[Fm (BO hip)]at hi;rw[if_neg]
     ·exact h.2 i j y c hi hj
     ·rcases ES hip with hlt | hgt
      ·have:=AR sz (show i+1<=p.1 by omega);rw[AT,Cf]at this;omega
      ·have:=AR sz (show p.1+1<=i by omega);rw[AT,Cf]at this;omega
  obtain⟨cur',q1,q2,q3⟩:=RowA.fill (ps:=ps) (fs:=fs) hR (by rw[qe8];simpa using hl) (by simpa using hlen) (λk q hq=>by
   obtain⟨y,r1,r2,r3,r4,r5⟩:=hp (k+1) q (by simpa using hq)
   exact⟨y,by simpa using r1,by simpa using r2,r3,r4,r5⟩)
  exact⟨cur',by rw[hstep];exact q1,by rw[q2,qe8],q3⟩
section
variable {E:Env} {call:FuncId->List FV->Res} {X:Cx} {M:Mem} {a:Act} {w:World} {γ:Nat->Gh} {S:Nat->Prop} {us:List (Key×Ent)} {o:Oper}
theorem TyOk.zeroCells{P:Program}{t:TypeId}{i:TyI}{inf:TypeInfo}{d:TypeDesc}{z:Value}(hT:TyOk P t i inf d z):i.q1g.cells=i.q2c:=by
 unfold TyI.q1g;cases ha:i.agg with
 |true=>rfl
 |false =>
  obtain⟨k,hk,_⟩:=hT.one ha;simp only[TyI.q2c,hk,AQ,BE,Ab,List.headD_cons];cases k <;> rfl
theorem RowA.q2c{t:TypeId}{i:TyI}{inf:TypeInfo}{d:TypeDesc}{z:Value}(hT:TyOk E.P t i inf d z)(n m:Nat)(h:n*i.size<=m) :
  RowA w S (madeCells z.cells m) i.size (List.replicate n i.q1g):=by
 have hz:z.cells.size=i.size:=by have:=qai hT.q2c;simpa[hT.len]using this
 refine⟨λx hx=>?_,λq j x c hq hj=>?_⟩
 ·rw[(List.mem_replicate.1 hx).2];refine⟨by rw[hT.zeroCells,TyI.q2c,Aa,hT.len],λc hc=>?_⟩;rw[hT.zeroCells]at hc;obtain⟨j,hj⟩:=Bt.1 hc;simp only[TyI.q2c,Bq,BX]at hj;obtain⟨k,hk,rfl⟩:=hj;obtain⟨v,r1,r2,r3,r4⟩:=q9f (w:=w) (S:=S) hT.q2c j k hk;cases k with
  |raw u=>simp only[CK.zero]at r2;cases r2;exact r4
  |_=>rfl
 ·have hqn:q<n:=by have:=(Ao.1 hq).1;simpa using this
  have hx:x=i.q1g:=(List.mem_replicate.1 (AS hq)).2;subst hx;rw[hT.zeroCells]at hj;simp only[TyI.q2c,Bq,BX]at hj;obtain⟨k,hk,rfl⟩:=hj;obtain⟨v,r1,r2,r3,r4⟩:=q9f (w:=w) (S:=S) hT.q2c j k hk;have hjl:j<i.size:=by have:=(Ao.1 hk).1;rw[hT.len]at this;exact this
  have hin:=AR i.size (show q+1<=n by omega);rw[AT,Cf]at hin;refine⟨v,?_,r2⟩;have hlt:q*i.size+j<m:=by omega
  have hmod:(q*i.size+j)%z.cells.size=j:=by rw[hz,AC,Ee];exact AK hjl
  have hv:z.cells[j]?=some v:=by rw[<- By];exact r1
  have hr:(Array.range m)[q*i.size+j]?=some (q*i.size+j):=by simp[hlt]
  simp only[madeCells,Array.getElem?_map,hr,AD,hmod,getElem!_def,hv]
theorem qh5(h:Rel X M a w γ S):∀ {ps:List (Nat×Operand)} {f:List (Nat×SV)->RT},Gets (opdP ps f) M us ->
  ∃ss,ss.length=ps.length/\(∀(k:Nat) (p:Nat×Operand),ps[k]?=some p->∃s,ss[k]?=some (p.1,s)/\SRep w S γ (hdOf M) s (a.eval p.2))/\Gets (f ss) M us
 |[],f,hg=>⟨[],rfl,λk p hk=>by simp at hk,hg⟩
 |(i,x)::ps,f,hg=>by
  unfold opdP at hg;obtain⟨s,hs,hg⟩:=q1k h hg;obtain⟨ss,h1,h2,hg⟩:=qh5 h hg;refine⟨(i,s)::ss,by simp[h1],λk p hk=>?_,hg⟩;cases k with
  |zero=>simp at hk;subst hk;exact⟨s,rfl,hs⟩
  |succ k=>simpa using h2 k p (by simpa using hk)
theorem qw.qag{fz:List (Key×Ent)}(h:qw M fz){d:Nat}(hd:hdOf M d=none):hdOf (fz++M) d=none:=by
 rcases h.get (.head d)with⟨q,_⟩ | ⟨id,s,xs,q1,q2,q3⟩
 ·rw[hdOf,q];exact hd
 ·cases q1;rcases q3 with q3 | q3 <;> rw[hd]at q3 <;> cases q3
def q4t(M:Mem)(us:List (Key×Ent))(s:SV)(x:FV):Prop :=
 (∃cs xs,s=.agg cs/\x=.agg xs/\xs.length=cs.length/\∀(j:Nat) (c:SV),cs[j]?=some c->∃y,xs[j]?=some y/\FzOk M us c y)\/(s.cells=[s]/\FzOk M us s x)
theorem q4t.mono{us vs:List (Key×Ent)}(hs:∀p,p∈us->p∈vs){s:SV}{x:FV}(h:q4t M us s x):q4t M vs s x:=by
 rcases h with⟨cs,xs,h1,h2,h3,h4⟩ | ⟨h1,h2⟩
 ·exact .inl ⟨cs,xs,h1,h2,h3,λj c hj=>let ⟨y,q1,q2⟩:=h4 j c hj;⟨y,q1,q2.mono hs⟩⟩
 ·exact .inr ⟨h1,h2.mono hs⟩
theorem q4t.len{us:List (Key×Ent)}{s:SV}{x:FV}(h:q4t M us s x):x.cells.length=s.cells.length:=by
 rcases h with⟨cs,xs,rfl,rfl,h3,h4⟩ | ⟨h1,h2⟩
 ·exact h3
 ·rw[h1];cases h2 with
  |fv h=>cases x <;> first | rfl | simp[FV.flat]at h
  |_=>rfl
theorem q4t.flat{us:List (Key×Ent)}{s:SV}{x:FV}(h:q4t M us s x):∀c,c∈x.cells->c.flat=true:=by
 rcases h with⟨cs,xs,rfl,rfl,h3,h4⟩ | ⟨h1,h2⟩
 ·intro c hc;obtain⟨j,hj⟩:=Bt.1 hc;simp only[FV.cells]at hj;have hj':=(Ao.1 hj).1;obtain⟨x',q1,q2⟩:=h4 j cs[j] (Ag (by omega));rw[hj]at q1;cases q1;exact q2.flat
 ·have hxc:x.cells=[x]:=by cases h2 with
   |fv h=>cases x <;> first | rfl | simp[FV.flat]at h
   |_=>rfl
  intro c hc;rw[hxc]at hc;simp at hc;subst hc;exact h2.flat
theorem q4t.rep{us:List (Key×Ent)}{s:SV}{x:FV}(hz:q4t M us s x)(hf:qw M us)(h:Rel X (us++M) a w γ S){v:Value}(hv:SRep w S γ (hdOf (us++M)) s v) :
  v.cells.size=s.cells.length/\∀(j:Nat) (c:FV),x.cells[j]?=some c->∃u,v.cells[j]?=some u/\FRep w S c u/\u.oneCell'=true:=by
 rcases hz with⟨cs,xs,rfl,rfl,h3,h4⟩ | ⟨h1,h2⟩
 ·obtain⟨vs,rfl,hl,hr⟩:=hv.qan;refine⟨hl,λj c hj=>?_⟩;simp only[FV.cells]at hj;have hj':=(Ao.1 hj).1;have hjs:j<cs.length:=by omega
  obtain⟨x',q1,q2⟩:=h4 j cs[j] (Ag hjs);rw[hj]at q1;cases q1;have:=q2.rep hf h (hr j cs[j] (Ag hjs));have hv':vs[j]?=some (vs.getD j undef):=by
   rw[Az,Bp (by omega),Bg]
  exact⟨_,hv',this.1,this.2.2⟩
 ·have hxc:x.cells=[x]:=by cases h2 with
   |fv h=>cases x <;> first | rfl | simp[FV.flat]at h
   |_=>rfl
  obtain⟨q1,q2,q3⟩:=h2.rep hf h hv;have hvc:v.cells=#[v]:=by cases v <;> first | rfl | simp[Value.oneCell']at q3
  rw[hvc,h1,hxc];refine⟨rfl,λj c hj=>?_⟩;cases j with
  |zero=>simp at hj;subst hj;exact⟨v,rfl,q1,q3⟩
  |succ j=>simp at hj
theorem qe3{s:SV}{f:FV->List (Key×Ent)->RT}(hg:Gets (frz s f) M us):∃x fz,qw M fz/\q4t M fz s x/\Gets (f x fz) M us:=by
 unfold frz at hg;split at hg
 ·obtain⟨xs,fz,h1,h2,h3,hg⟩:=qgd hg;exact⟨_,fz,h1,.inl ⟨_,xs,rfl,rfl,h2,h3⟩,hg⟩
 ·rename_i hs;obtain⟨x,fz,h1,h2,hg⟩:=qdy hg;exact⟨x,fz,h1,.inr ⟨by cases s <;> first | rfl | exact absurd rfl (hs _),h2⟩,hg⟩
theorem ql8{n sz:Nat}:∀ {ps:List (Nat×SV)} {f:List (Nat×FV)->List (Key×Ent)->RT},Gets (frzParts n sz ps f) M us ->
  ∃xs fz,qw M fz/\xs.length=ps.length/\Gets (f xs fz) M us/\∀(k:Nat) (i:Nat) (s:SV),ps[k]?=some (i,s)->∃x,xs[k]?=some (i,x)/\i<n/\s.cells.length=sz/\q4t M fz s x
 |[],f,hg=>⟨[],[],qw.nil M,rfl,hg,λk i s h=>by simp at h⟩
 |(i,s)::ps,f,hg=>by
  unfold frzParts at hg;obtain⟨x,fz,hfz,hok,hg⟩:=qe3 hg;obtain⟨hb,hg⟩:=q16 hg;simp only[Ai]at hb;have hsz:=Aw hb.1;have hin:=Bz hb.2;obtain⟨xs,fz',h1,h2,hg,h4⟩:=ql8 hg;refine⟨(i,x)::xs,fz++fz',hfz.app h1,by simp[h2],hg,λk i' s' hk=>?_⟩;cases k with
  |zero =>
   simp only[Aj,AH,Bv]at hk;obtain⟨rfl,rfl⟩:=hk;exact⟨x,rfl,hin,hsz,hok.mono λp hp=>Er _ hp⟩
  |succ k =>
   obtain⟨x',r1,r2,r3,r4⟩:=h4 k i' s' (by simpa using hk);exact⟨x',by simpa using r1,r2,r3,r4.mono λp hp=>DM _ hp⟩
theorem qs5{t:TypeId}{n:Nat}{parts:Array (Nat×Operand)}(hE:q15 E)(h:Rel X M a w γ S)(hd:∀d,o.dst=some d->X.Dst d)(hop:o.op=.buildSlice t n parts)(hg0:Gets (rtOp E call o) M us):Goal E.P X M o a w us:=by
 simp only[rtOp,hop]at hg0;obtain⟨el,te,inf,dd,z,hu,hT,hg1⟩:=q5e hE hg0;obtain⟨ss,l1,hss,hg2⟩:=qh5 h hg1;obtain⟨xs,fz,hfz,l2,hg,hxs⟩:=ql8 hg2;clear hg0 hg1 hg2;split at hg
 ·rename_i d hdst;obtain⟨hb,hg⟩:=q16 hg;simp only[Ai]at hb;have hsmall:=Bz hb.1;have hone:=Bz hb.2;obtain⟨hf,hg⟩:=q7p hg;obtain rfl:=q2w hg;obtain⟨S',k1,k2,hR⟩:=h.q8p hfz;have hz:z.cells.size=te.size:=by have:=qai hT.q2c;simpa[hT.len]using this
  have hbase:RowA w S' (madeCells z.cells (n*te.size)) te.size (List.replicate n te.q1g):=RowA.q2c (E:=E) hT n _ (Ak _);have hvals:∀(k:Nat) (p:Nat×Value),(parts.map λp=>(p.1,a.eval p.2)).toList[k]?=some p->∃x,xs[k]?=some (p.1,x)/\p.1<(List.replicate n te.q1g).length/\El te.size x/\p.2.cells.size=te.size /\
    ∀(j:Nat) (c:FV),x.cells[j]?=some c->∃u,p.2.cells[j]?=some u/\FRep w S' c u:=by
   intro k p hk;simp only[DP,Bq,BX]at hk;obtain⟨q,hq,rfl⟩:=hk;obtain⟨s,r1,r2⟩:=hss k q hq;obtain⟨x,r3,r4,r5,r6⟩:=hxs k q.1 s r1;obtain⟨r7,r8⟩:=r6.rep hfz hR (r2.mono (λ_ _=>rfl) k1 hfz.hdLe);exact⟨x,r3,by simpa using r4,⟨by rw[r6.len,r5],r6.flat⟩,by rw[r7,r5],λj c hj=>let ⟨u,q1,q2,_⟩:=r8 j c hj;⟨u,q1,q2⟩⟩
  obtain⟨cur,c1,c2,c3⟩:=RowA.fill hbase (by simp[size_madeCells]) (by simp[l1,l2]) hvals;rw[size_madeCells]at c2;have hlen:(qd n te.q1g xs).length=n:=by
   unfold qd;have:∀(ps:List (Nat×FV)) (l:List FV),(ps.foldl (λl p=>l.set p.1 p.2) l).length=l.length:=by
    intro ps
    induction ps with
    |nil=>intro l;rfl
    |cons p ps ih=>intro l;rw[Be,ih];simp
   rw[this];simp
  have hr:(execOp a.eval o).run E.P w=.ok (.value (.slice (some ⟨w.heap.size,0,none⟩) n n)) (w.alloc (.cells cur el (0,0))):=by
   have hrun:(Instr.buildSlice t n (parts.map λp=>(p.1,a.eval p.2))).run E.P w=.ok (.slice (some ⟨w.heap.size,0,none⟩) n n) (w.alloc (.cells cur el (0,0))):=by
    by_cases h0:n*te.size=0
    ·have hn0:n=0:=by rcases Nat.mul_eq_zero.1 h0 with h0 | h0 <;> omega
     subst hn0;have c1':Instr.fill (λi=>some (i*te.size,te.size)) #[] (parts.map λp=>(p.1,a.eval p.2)).toList=some cur:=by
      have e:madeCells z.cells (0*te.size)=#[]:=by simp[madeCells]
      rw[<- e];exact c1
     rw[DP]at c1';simp[Instr.buildSlice,run_underlying hu,hT.runS,c1',newRow,Array.range_zero']
    ·exact run_buildSlice w t el n _ cur inf z hu hT.info hT.zero (by rw[hT.size];omega) (by rw[hT.size];exact h0) (by rw[hT.size];exact c1)
   simp[execOp,hop,hrun]
  have:=hR.newVec (hd d hdst) (hfz.qag hf) (sz:=te.size) (cap:=n) (xs:=qd n te.q1g xs) (vals:=cur) (t:=el) (by omega) (by rw[c2];exact Ak _) c3.1 c3.2;rw[hlen]at this;exact .value hr (by rw[hdst];exact this)
 ·exact(qh hg).elim
theorem qs6{bytes:Nat}{c:Int}{n:Nat}(h:q1r bytes c=some n):0<=c/\bytes*c<=140737488355328/\c<=140737488355328/\n=c.toNat:=by
 unfold q1r at h;split at h
 ·rename_i q;cases h;exact⟨q.1,q.2.1,q.2.2,rfl⟩
 ·simp at h
theorem qs7{t:TypeId}{x y:Operand}(hE:q15 E)(h:Rel X M a w γ S)(hd:∀d,o.dst=some d->X.Dst d)(hop:o.op=.makeSlice t x y)(hg0:Gets (rtOp E call o) M us):Goal E.P X M o a w us:=by
 simp only[rtOp,hop]at hg0;obtain⟨el,te,inf,dd,z,hu,hT,hg1⟩:=q5e hE hg0;obtain⟨s,hs,hg2⟩:=q1k h hg1;obtain⟨r,hr,hg⟩:=q1k h hg2;clear hg0 hg1 hg2;split at hg
 ·rename_i k1 n k2 c d hdst;have e1:=hs.q1n;have e2:=hr.q1n;obtain⟨hb,hg⟩:=q16 hg;have hone:=Bz hb;obtain⟨c',hc,hg⟩:=q9e hg;obtain⟨n',hn,hg⟩:=q9e hg;obtain⟨q1,q2,q3,rfl⟩:=qs6 hc;obtain⟨p1,p2,rfl,p4⟩:=qfl hn;obtain⟨hf,hg⟩:=q7p hg;obtain rfl:=q2w hg;have hrun:=run_make (P:=E.P) w t el inf z hu hT.info hT.zero k1 k2 n c p1 (by omega) (by rw[hT.bytes];omega) (by omega);rw[hT.size]at hrun;have hrow:RowA w S (madeCells z.cells (c.toNat*te.size)) te.size (List.replicate n.toNat te.q1g):=RowA.q2c (E:=E) hT n.toNat _ (AR _ (by omega));have:=h.newVec (hd d hdst) hf (sz:=te.size) (cap:=c.toNat) (xs:=List.replicate n.toNat te.q1g) (t:=el) (by simp;omega) (by rw[size_madeCells];exact Ak _) hrow.1 hrow.2;rw[Dd]at this;refine .value (v:=.slice (some ⟨w.heap.size,0,none⟩) n.toNat c.toNat) ?_ (by rw[hdst];exact this);simp[execOp,hop,e1,e2,hrun]
 ·exact(qh hg).elim
end
end
section
theorem qo1{P:Program}(w:World)(t ty e te:TypeId)(i:TypeInfo)(ht:P.underlying t=some (.slice e))(hi:P.info? e=some i)
  (g off sLen sCap:Nat) (cur:Array Value) (hg:w.heap[g]?=some (.cells cur te (0,0)))
  (a:Addr) (m c:Nat) (news:List Value) (hl:news.length=m*i.size) (hnews:∀(j:Nat) (u:Value),news[j]?=some u->w.cell? (a.add j)=some u) (h1:∀u∈news,u.oneCell'=true)
  (hroom:sLen+m<=sCap) (hfit:off+sLen*i.size+news.length<=cur.size) :
  (Builtin.append_ #[t,t] ty #[.slice (some ⟨g,off,none⟩) sLen sCap,.slice (some a) m c]).run P w =
   .ok (.slice (some ⟨g,off,none⟩) (sLen+m) sCap) (w.setRow g (cur.toList.take (off+sLen*i.size)++news++cur.toList.drop (off+sLen*i.size+news.length)).toArray):=by
 have hf:=run_firstCells_some (P:=P) w i.size m a m c news hl hnews;have hst:=run_storeCells_at P g (off+sLen*i.size) te news 0 cur w hg (by simpa using hfit) h1;simp only[Ay]at hst;simp[Builtin.append_,run_underlying ht,Go.sizeOf,typeInfo,hi,Builtin.lenOf,hroom,hf,q5d,hst]
section
variable {E:Env} {call:FuncId->List FV->Res} {X:Cx} {M:Mem} {a:Act} {w:World} {γ:Nat->Gh} {S:Nat->Prop} {us:List (Key×Ent)} {o:Oper}
theorem qir(h:Rel X M a w γ S){sz:Nat}{s:SV}{v:Value}(hs:SRep w S γ (hdOf M) s v){f:List FV->RT}(hg:Gets (seq sz s f) M us) :
  ∃xs aa cap b p,v=.slice aa xs.length cap/\xs.length<=cap/\(xs≠[]->aa=some ⟨b,p,none⟩)/\Row w S b p sz xs/\Gets (f xs) M us:=by
 unfold seq at hg;split at hg
 ·have e:=hs.q8z;exact⟨[],none,0,0,0,e,Ak _,λh=>absurd rfl h,⟨λx hx=>by simp at hx,λi j x c hi=>by simp at hi⟩,hg⟩
 ·rename_i x;split at hg
  ·rename_i xs hx;unfold lstOf at hx;split at hx
   ·rename_i s0 ys;have hrep:=hs.qcp;obtain⟨aa,cap,b,p,h1,h2,h3,h4⟩:=FRep.q38.1 hrep;cases hb:Nat.beq s0 sz with
    |true =>
     rw[hb]at hx;simp only[Ac,AH]at hx;subst hx;have:=Aw hb;subst this;exact⟨ys,aa,cap,b,p,h1,h2,λhne=>(h3 hne).1,h4,hg⟩
    |false =>
     rw[hb]at hx;simp only[Ab]at hx;split at hx
     ·cases hx;exact⟨[],aa,cap,b,p,h1,h2,λhne=>absurd rfl hne,⟨λx hx=>by simp at hx,λi j x c hi=>by simp at hi⟩,hg⟩
     ·simp at hx
   ·simp at hx
  ·exact(qh hg).elim
 ·rename_i id view;obtain⟨e,he,hg⟩:=q2y hg;have go:∀s0 xs,e.row=some (s0,xs.length)->(e=.vec s0 xs\/e=.frz s0 xs)->Gets (bif Nat.beq s0 sz then(match(generalizing:=false) view with | none=>f xs | some (o,n)=>f ((xs.drop o).take n))else .fail) M us ->
    ∃xs aa cap b p,v=.slice aa xs.length cap/\xs.length<=cap/\(xs≠[]->aa=some ⟨b,p,none⟩)/\Row w S b p sz xs/\Gets (f xs) M us:=by
   clear hg;intro s0 xs hrow hcase hg0;obtain⟨hb,hgA⟩:=q16 hg0;clear hg0;have:=Aw hb;subst this;have ho:=h.head id e he;have hcap:xs.length<=(γ id).cap:=len_cap h he hrow;have hR:(γ id).nil=true->xs=[]:=λhn=>by
    rcases hcase with rfl | rfl <;> (have:=ho.2;rw[if_pos hn]at this;exact this.1)
   have hrowR:(γ id).nil=false->Row w S (γ id).blk (γ id).off s0 xs:=λhn=>by
    rcases hcase with rfl | rfl
    ·have:=ho.2;rw[if_neg (by simp[hn])]at this;obtain⟨_,_,_,_,q⟩:=this;exact q
    ·have:=ho.2;rw[if_neg (by simp[hn])]at this;exact this.2
   have empty:Row w S 0 0 s0 ([]:List FV):=⟨λx hx=>by simp at hx,λi j x c hi=>by simp at hi⟩;rcases hs.q67 he hrow with⟨rfl,rfl⟩ | ⟨o',n,aa,c,rfl,rfl,h1,h2,h3,h4⟩
   ·by_cases hn:(γ id).nil=true
    ·have:=hR hn;subst this;exact⟨[],_,_,0,0,rfl,hcap,λh=>absurd rfl h,empty,hgA⟩
    ·have hn':(γ id).nil=false:=by simpa using hn
     exact⟨xs,_,_,(γ id).blk,(γ id).off,rfl,hcap,λ_=>by simp[Gh.base,hn'],hrowR hn',hgA⟩
   ·have hlen:((xs.drop o').take n).length=n:=by simp;omega
    by_cases h0:n=0
    ·subst h0;simp only[CR]at hgA;exact⟨[],aa,c,0,0,rfl,BP _,λh=>absurd rfl h,empty,hgA⟩
    ·obtain⟨hn,rfl⟩:=h3 h0;exact⟨(xs.drop o').take n,_,c,(γ id).blk,(γ id).off+o'*s0,by rw[hlen],by rw[hlen];exact h2,λ_=>rfl,(hrowR hn).sub' o' n,hgA⟩
  split at hg
  ·exact go _ _ rfl (.inl rfl) hg
  ·exact go _ _ rfl (.inr rfl) hg
  ·exact(qh hg).elim
 ·exact(qh hg).elim
def q3b(w:World)(b p sz n:Nat):List Value:=(List.range (n*sz)).map λk=>(cellAt w b (p+k)).getD undef
theorem qf0{b p sz n k:Nat}(hk:k<n*sz):(q3b w b p sz n)[k]?=some ((cellAt w b (p+k)).getD undef):=by
 simp[q3b,hk]
theorem FRep.one{x:FV}{v:Value}(h:FRep w S x v)(hx:x.flat=true):v.oneCell'=true:=by
 cases h <;> first | rfl | exact hx | (simp[FV.flat]at hx)
theorem qo2{P:Program}{w:World}{S:Nat->Prop}{src dst el:TypeId}(hs:P.underlying src=some (.slice el))(he:P.underlying el=some (.int .u8))(hd:P.underlying dst=some .string)
  {xs:List FV} {aa:Option Addr} {cap b p:Nat} {str:ByteArray} (haa:xs≠[]->aa=some ⟨b,p,none⟩) (hrow:Row w S b p 1 xs) (hb:bytesO xs=some str) :
  (Go.convert src dst (.slice aa xs.length cap)).run P w=.ok (.string str) w:=by
 unfold bytesO at hb;split at hb
 ·rename_i hall;simp only[AH]at hb;have hns:∃ns:List Int,xs=ns.map (FV.int .u8):=by
   clear hb haa hrow
   induction xs with
   |nil=>exact⟨[],rfl⟩
   |cons x xs ih =>
    simp only[Bk,Ai]at hall;obtain⟨ns,rfl⟩:=ih hall.2;have h1:=hall.1;split at h1
    ·rename_i n;exact⟨n::ns,rfl⟩
    ·cases h1
  obtain⟨ns,rfl⟩:=hns;have hstr:str=strOfNums ns:=by
   rw[<- hb,Cu];rfl
  subst hstr;cases ns with
  |nil =>
   cases aa with
   |none=>exact(run_convert_bytes_nil w src el hs he 0 cap dst hd).trans rfl
   |some ad =>
    have hl:(loadCells ad 0).run P w=.ok (([]:List Int).map (Value.int .u8)).toArray w:=by simpa using run_loadCells_list (P:=P) w ad [] (λj v h=>by simp at h)
    have:=run_bytesToString w ad 0 cap [] hl;rw[BE,Bf,run_convert_bytes_string w src dst el _ 0 cap hs he hd,this];rfl
  |cons n ns =>
   rw[haa (by simp)];refine run_convert_bytes_arg w src el hs he b p _ cap (n::ns) (by simp) (λi hi=>?_) dst hd;have hi':i<(n::ns).length:=by simpa using hi
   obtain⟨v,h1,h2⟩:=hrow.2 i 0 (.int .u8 ((n::ns)[i])) (.int .u8 ((n::ns)[i])) (by rw[Bq,Ag hi'];rfl) rfl;have e:v=.int .u8 ((n::ns)[i]):=by cases h2;rfl
   subst e;rw[show p+(i*1+0)=p+i by omega]at h1;rw[AG,Ag hi'];exact h1
 ·cases hb
theorem qo3{src dst:TypeId}{x:Operand}(hE:q15 E)(h:Rel X M a w γ S)(hd:∀d,o.dst=some d->X.Dst d)(hop:o.op=.convert src dst x)(hg0:Gets (rtOp E call o) M us):Goal E.P X M o a w us:=by
 simp only[rtOp,hop]at hg0;obtain⟨s,hs,hg1⟩:=q1k h hg0;obtain⟨i1,inf1,d1,z1,hT1,hg2⟩:=q3p hE hg1;obtain⟨i2,inf2,d2,z2,hT2,hg⟩:=q3p hE hg2;clear hg0 hg1 hg2;split at hg
 ·rename_i k n k' ha hck;have hc:=hT2.scalar ha;rw[hck]at hc;have:d2=.int k':=by cases d2 <;> simp[ck1,q7c]at hc;rw[hc]
  subst this;have e:=hs.q1n;refine .q1i (v:=.int _ _) ?_ (q1f h hd (.fv (.int _ _)) hg);simp[execOp,hop,e,Go.convert,hT1.runU,hT2.runU,Conv.intToInt]
 ·rename_i n ha hck;have hc:=hT2.scalar ha;rw[hck]at hc;have:d2=.string:=by cases d2 <;> simp[ck1]at hc;rfl
  subst this;have e:=hs.q5b;refine .q1i (v:=.string _) ?_ (q1f h hd (.fv (.str _)) hg);simp[execOp,hop,e,Go.convert,hT1.runU,hT2.runU]
 ·have hck:i2.ck=[.str]:=by assumption
  have hc:=hT2.scalar (by assumption);rw[hck]at hc;have:d2=.string:=by cases d2 <;> simp[ck1]at hc;rfl
  subst this;obtain⟨el,te,inf,dd,z,hu,hT,hG⟩:=q5e hE hg;split at hG
  ·rename_i hag hek;have hc:=hT.scalar hag;rw[hek]at hc;have:dd=.int .u8:=by cases dd <;> simp[ck1,q7c]at hc;rw[hc]
   subst this;obtain⟨xs,aa,cap,b,p,e,hcap,haa,hrow,hG2⟩:=qir h hs hG;obtain⟨str,hstr,hG3⟩:=qf1 hG2;refine .q1i (v:=.string str) ?_ (q1f h hd (.fv (.str str)) hG3);have hrun:=qo2 (src:=src) (dst:=dst) hu hT.und hT2.und haa hrow hstr (cap:=cap);rw[<- e]at hrun;simp[execOp,hop,hrun]
  ·exact(qh hG).elim
 ·exact(qh hg).elim
end
end
end Rf
