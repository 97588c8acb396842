/- Texts of this work put together, their blanks and comments taken out: LibD. -/
import Derived.Test.YtcpnpoagpnkblaaGreatDoorONC
import Derived.Lib.SliceRun
set_option linter.unusedVariables false
set_option linter.unusedSimpArgs false
section
namespace Rf
open Go Go.Proofs Go.Shelf Go.RowKit Go.Sort Go.Lib
theorem qvq:(Tryz.prog.info? 231).map (λi=>(i.zero,i.size,i.bytes))=some (some (.int .u32 0),1,4):=by kernel_rfl
set_option maxHeartbeats 2000000 in
set_option maxRecDepth 100000 in
theorem qvr(ad:Addr)(n c:Nat)(news:List Value)(w:World)(hl:news.length=n)(h1:∀u,u∈news->u.oneCell'=true)(hbig:n*4<=140737488355328)(hc:∀j u,news[j]?=some u->w.cell? (ad.add j)=some u) :
  Calls Tryz.prog 230 #[.slice (some ad) n c] w λe w'=>∃v',e=.returned v'/\w'.ownsRow w.heap.size 231 1 v' n news/\Below w.heap.size w w':=by
 obtain⟨i0,hi,hz0,hz1,hz2⟩:=info_parts qvq;have q25:∀(w:World) (a:Option Addr) (n c n' c':Nat),(Go.binOp .eql 88 (.slice a n c) (.slice none n' c')).run Tryz.prog w=.ok (.bool a.isNone) w:=λw a n c n' c'=>Lib.run_eql_slice_nil w _ _ a n c n' c' Tryz.underlying88;have u25:∀w,Sem.run Tryz.prog (underlying 88) w=.ok (TypeDesc.slice 231) w:=run_underlying Tryz.underlying88;have A:Aside (∀j u,news[j]?=some u->w.cell? (ad.add j)=some u):=hc;have A1:Aside (∀u,u∈news->u.oneCell'=true):=h1;clear hc h1
 go_enter Tryz.func230,Tryz.ntmps230
 go_wp2_with (at_builtin;refine wpList_append_own _ rfl _ _ 88 rfl w.heap.size 231 i0 (.int .u32 0) 1 4 Tryz.underlying88 hi hz0 hz1 hz2 rfl (by decide) _ _ _ rfl (World.ownsRow_made w #[] 0 (Nat.le_refl _) (Nat.zero_le _) rfl) ad n c news rfl ?qc1 ?qc2 ?qc3 ?qc4 ?qc5 ?qc6 ?_)
 case qc1=>omega
 case qc2 =>
  intro j u hj;refine Lib.cell?_alloc_some _ ?_;exact A.out j u hj
 case qc3=>exact A1.out
 case qc4=>unfold maxLen;omega
 case qc5=>omega
 case qc6=>simp
 intro v' w1 hown hgrow hnil
 go_wp2
 go_ret
 refine⟨v',rfl,by simpa using hown,?_⟩;exact((Below.refl _ w).alloc (Nat.le_refl _) _).grown hgrow (by simp) (by intro k hk;simp[Value.ownBlock]at hk;omega)
theorem one_flat{w:World}{S:Nat->Prop}{c:FV}{v:Value}(h:FRep w S c v)(hf:c.flat=true):v.oneCell'=true:=by
 cases h with
 |int _ _=>rfl
 |bool _=>rfl
 |str _=>rfl
 |raw v=>exact hf
 |agg _ _ _ _=>simp[FV.flat]at hf
 |list _ _ _ _ _ _ _ _ _ _ _=>rfl
 |ref _ _ _ _ _ _ _ _=>rfl
theorem clone_ok{E:Env}(hP:E.P=Tryz.prog){L L':List FV}(hL:cloneExt L=some L'):Enters E.P 230/\q31 E.P 230 ⟨[.lst 1],[.skip,.own 1],[]⟩ L L':=by
 rw[hP];refine⟨⟨Tryz.f230,Tryz.func230,rfl,by kernel_rfl⟩,λw S V G hS hTb hT hgo=>?_⟩;obtain⟨v,V',x,L0,rfl,rfl,hlf,hfr,rfl,rfl,rfl⟩:=hT;unfold cloneExt at hL;split at hL
 ·rename_i xs heq;cases heq;split at hL
  ·rename_i hlen;cases hL;obtain⟨a,cap,b,o,rfl,hc,ha,hel,hrow⟩:=FRep.q38.1 hfr;obtain⟨rfl,hSb⟩:=ha hlen.1;have cell:∀i x,xs[i]?=some x->∃c u,x.cells=[c]/\cellAt w b (o+i)=some u/\FRep w S c u/\u.oneCell'=true:=λi x hi=>by
    have he:=hel x (List.mem_of_getElem? hi);obtain⟨c,hcs⟩:∃c,x.cells=[c]:=List.length_eq_one_iff.1 he.1;obtain⟨u,h1,h2⟩:=hrow i 0 x c hi (by rw[hcs];rfl);exact⟨c,u,hcs,by simpa using h1,h2,one_flat h2 (he.2 c (by rw[hcs];simp))⟩
   have hnews:∀j u,((List.range xs.length).map λj=>(cellAt w b (o+j)).getD undef)[j]?=some u->j<xs.length/\cellAt w b (o+j)=some u:=λj u hj=>by
    rw[List.getElem?_map]at hj;have hjl:j<xs.length:=by
     cases hr:(List.range xs.length)[j]? with
     |none=>rw[hr]at hj;simp at hj
     |some k=>have:=(List.getElem?_eq_some_iff.1 hr).1;simpa using this
    rw[List.getElem?_range hjl]at hj;obtain⟨c,u',_,h2,_⟩:=cell j xs[j] (List.getElem?_eq_getElem hjl);simp only[Option.map_some,h2,Option.getD_some,Option.some.injEq]at hj;rw[hj]at h2;exact⟨hjl,h2⟩
   refine(qvr ⟨b,o,none⟩ xs.length cap ((List.range xs.length).map λj=>(cellAt w b (o+j)).getD undef) w (by simp) (λu hu=>?_) (by have:=hlen.2.1;omega) (λj u hj=>?_)).mono ?_
   ·obtain⟨j,hj⟩:=List.mem_iff_getElem?.1 hu;obtain⟨hjl,h2⟩:=hnews j u hj;obtain⟨c,u',_,h3,_,h4⟩:=cell j xs[j] (List.getElem?_eq_getElem hjl);rw[h2]at h3;cases h3;exact h4
   ·rw[q5d];exact(hnews j u hj).2
   ·rintro e w' ⟨v',rfl,hown,hB⟩;have hlt:=hown.lt;rcases hown.2 with⟨rfl,h0⟩ | ⟨g,cap',cur,rfl,hb,hh,hcc,hm,hcs,ht⟩
    ·exact absurd (List.eq_nil_of_length_eq_zero h0) hlen.1
    have hg:=hlt g rfl;refine⟨S,[(⟨g,0,cap',false⟩,(some (1,xs.length),none))],[.slice (some ⟨g,0,none⟩) xs.length cap'],rfl,⟨_,_,rfl,⟨g,0,cap',false⟩,xs,[],[],rfl,rfl,⟨hcc,?_⟩,rfl,rfl,rfl⟩,q6r hS hTb hB,⟨λi g' sh h hn=>?_,λi j g1 g2 s s' h1 h2 _ _ _=>?_⟩⟩
    ·rw[if_neg (by simp)];refine⟨cur,231,hh,by show 0+cap'*1<=cur.size;omega,hel,λi j x c hi hj=>?_⟩;obtain⟨c',u,hcs',h2,h3,_⟩:=cell i x hi;rw[hcs']at hj;obtain⟨rfl,rfl⟩:j=0/\c=c':=by
      have:=(List.getElem?_eq_some_iff.1 hj).1;have hj0:j=0:=by simpa using this
      subst hj0;exact⟨rfl,by simpa using hj.symm⟩
     refine⟨u,?_,h3.mono (λb hb=>hB.block b (hS b hb)) λ_ h=>h⟩;have hil:=(List.getElem?_eq_some_iff.1 hi).1;rw[q5l hh];have e:(cur.toList.take (xs.length*1))[i]?=some u:=by rw[ht,List.getElem?_map,List.getElem?_range hil];simp[h2]
     rw[List.getElem?_take,if_pos (by omega)]at e;simpa using e
    ·cases i with
     |zero =>
      simp only[List.getElem?_cons_zero,Option.some.injEq,Prod.mk.injEq]at h;obtain⟨rfl,_⟩:=h
      exact⟨hg.2,λhs=>by
       have h1:=hg.1;have h2:g<w.heap.size:=hS _ hs
       omega,.inr hg.1⟩
     |succ i=>simp at h
    ·have e1:=(List.getElem?_eq_some_iff.1 h1).1;have e2:=(List.getElem?_eq_some_iff.1 h2).1;simp only[List.length_cons,List.length_nil]at e1 e2;omega
  ·cases hL
 ·cases hL
set_option maxRecDepth 100000 in
set_option maxHeartbeats 1000000 in
theorem join_zero(a:Option Addr)(c:Nat)(w:World):Calls Tryz.prog 209 #[.slice a 0 c,.string { data:=#[] }] w λe w'=>e=.returned (.string { data:=#[] })/\w'=w:=by
 go_enter Tryz.func209,Tryz.ntmps209
 go_wp2
 go_ret
 exact⟨rfl,rfl⟩
set_option maxRecDepth 100000 in
set_option maxHeartbeats 1000000 in
theorem join_one(b o c:Nat)(x:ByteArray)(w:World)(hc:w.cell? ⟨b,o,none⟩=some (.string x)):Calls Tryz.prog 209 #[.slice (some ⟨b,o,none⟩) 1 c,.string { data:=#[] }] w λe w'=>e=.returned (.string x)/\Below w.heap.size w w':=by
 go_enter Tryz.func209,Tryz.ntmps209
 go_wp2
 go_ret
 exact⟨rfl,Below.refl _ _⟩
def strV:FV->ByteArray
 |.str s=>s
 |_=>{ data:=#[] }
theorem byts_strV{xs:List FV}(h:xs.all q6l=true):(xs.map strV).map (λs=>s.data.toList)=xs.map byts:=by
 rw[List.map_map];refine List.map_congr_left λx hx=>?_;have:=List.all_eq_true.1 h x hx;cases x <;> first | rfl | (simp[q6l]at this)
theorem join_ok{E:Env}(hP:E.P=Tryz.prog){L L':List FV}(hL:joinExt L=some L'):Enters E.P 209/\q31 E.P 209 ⟨[.lst 1,.str],[.skip,.skip,.str],[]⟩ L L':=by
 rw[hP];refine⟨⟨Tryz.f209,Tryz.func209,rfl,by kernel_rfl⟩,λw S V G hS hTb hT hgo=>?_⟩;obtain⟨v1,V1,x1,L1,rfl,rfl,hl1,hf1,v2,V2,x2,L2,rfl,rfl,hl2,hf2,rfl,rfl,rfl⟩:=hT;unfold joinExt at hL;split at hL
 ·rename_i xs sep heq;cases heq;split at hL
  ·rename_i hh;cases hL;obtain⟨h0,hall,hlen,htot⟩:=hh;cases hf2;obtain⟨a,cap,b,o,rfl,hc,ha,hel,hrow⟩:=FRep.q38.1 hf1;have es:sep={ data:=#[] }:=by rw[<- qbp sep,h0];rfl
   subst es;have fin:∀ {w':World} {l:List UInt8},l=(xs.map byts).flatten->Below w.heap.size w w'->∃S' fin' R,Ending.returned (.string (txt l))=.returned (resV R)/\TRep w' S' [.skip,.skip,.str] ([Value.slice a xs.length cap,.string { data:=#[] }]++R) [.str (txt (xs.map byts).flatten)] [] fin'/\Keep ⟨w,S,q2b [],0,λ_=>none⟩ w' S'/\GOk ⟨w,S,q2b [],0,λ_=>none⟩ w' S' fin':=fun {w' l} hl hB=>by
    subst hl;exact⟨S,[],[.string (txt (xs.map byts).flatten)],rfl,⟨_,_,rfl,_,_,rfl,_,[],_,[],rfl,rfl,trivial,.str _,rfl,rfl,rfl⟩,q6r hS hTb hB,q7t⟩
   have cell:∀(k:Nat) (x:ByteArray),(xs.map strV)[k]?=some x->cellAt w b (o+k)=some (.string x):=λk x hk=>by
    rw[List.getElem?_map]at hk;cases hy:xs[k]? with
    |none=>rw[hy]at hk;cases hk
    |some y =>
     rw[hy]at hk;simp only[Option.map_some,Option.some.injEq]at hk;have hs:=List.all_eq_true.1 hall y (List.mem_of_getElem? hy);cases y with
     |str s =>
      obtain⟨u,h1,h2⟩:=hrow k 0 (.str s) (.str s) hy rfl;cases h2;rw[Nat.mul_one,Nat.add_zero]at h1;have:s=x:=hk;subst this;exact h1
     |_=>simp[q6l]at hs
   match hx:xs with
   |[] =>
    refine(join_zero a cap w).mono ?_;rintro e w' ⟨rfl,rfl⟩;exact fin (l:=[]) rfl (Below.refl _ _)
   |[y] =>
    obtain⟨rfl,hSb⟩:=ha (by simp);refine(join_one b o cap (strV y) w (by have:=cell 0 (strV y) rfl;rwa[Nat.add_zero]at this)).mono ?_;rintro e w' ⟨rfl,hB⟩;have hs:=List.all_eq_true.1 hall y (by simp);cases y with
    |str s =>
     have:=fin (w':=w') (l:=s.data.toList) (by simp[byts]) hB;rwa[qbp]at this
    |_=>simp[q6l]at hs
   |y::z::r =>
    obtain⟨rfl,hSb⟩:=ha (by simp);have hbl:=hS b hSb;have hj:jn ((y::z::r).map strV) ((y::z::r).map strV).length=((y::z::r).map byts).flatten:=by rw[jn_all,byts_strV hall]
    have h:=join_main b o cap ((y::z::r).map strV) w (by simp) (by simpa using hc) (by simpa using hlen) (by rw[hj];exact htot) (λk x hk W hB=>by
     have:=cell k x hk
     exact(q9o (hB.block b hbl) (o+k)).trans this)
    rw[List.length_map]at h;refine h.mono ?_;rintro e w' ⟨rfl,hB⟩;rw[List.length_map]at hj;exact fin hj hB
  ·cases hL
 ·cases hL
theorem qa5{α:Type}{k f:Nat}{x g:α}{r:List (Nat×α)}(h:lookN f ((k,x)::r)=some g):(f=k/\x=g)\/lookN f r=some g:=by
 unfold lookN at h;cases hb:Nat.beq k f with
 |true =>
  rw[hb,cond_true,Option.some.injEq]at h;exact .inl ⟨(Nat.eq_of_beq_eq_true hb).symm,h⟩
 |false=>rw[hb,cond_false]at h;exact .inr h
theorem ext_ok:q6k En:=by
 intro f g i L L' hf hi hL;have this:extT f=some g:=hf;unfold extT at this;rcases qa5 this with⟨rfl,rfl⟩ | this
 ·rw[show En.fn 230=some ⟨[.lst 1],[.skip,.own 1],[]⟩ by kernel_rfl]at hi;cases hi;exact clone_ok rfl hL
 rcases qa5 this with⟨rfl,rfl⟩ | this
 ·rw[show En.fn 206=some ⟨[.int .u64,.int .i64],[.skip,.skip,.str],[]⟩ by kernel_rfl]at hi;cases hi;exact format_ok rfl hL
 rcases qa5 this with⟨rfl,rfl⟩ | this
 ·rw[show En.fn 207=some ⟨[.str,.int .i64],[.skip,.skip,.str],[]⟩ by kernel_rfl]at hi;cases hi;exact repeat_ok rfl hL
 rcases qa5 this with⟨rfl,rfl⟩ | this
 ·rw[show En.fn 209=some ⟨[.lst 1,.str],[.skip,.skip,.str],[]⟩ by kernel_rfl]at hi;cases hi;exact join_ok rfl hL
 rcases qa5 this with⟨rfl,rfl⟩ | this
 ·rw[show En.fn 248=some ⟨[.str,.str],[.skip,.skip,.str],[]⟩ by kernel_rfl]at hi;cases hi;exact trim_ok rfl hL
 rcases qa5 this with⟨rfl,rfl⟩ | this
 ·rw[show En.fn 249=some ⟨[.str,.int .i64,.int .i64],[.skip,.skip,.skip,.int .u64,.raw .nilIface],[]⟩ by kernel_rfl]at hi;cases hi;exact parse_ok rfl hL
 rcases qa5 this with⟨rfl,rfl⟩ | this
 ·rw[show En.fn 262=some ⟨[.str,.int .u8],[.skip,.skip,.int .i64],[]⟩ by kernel_rfl]at hi;cases hi;exact idx_ok rfl hL
 cases this
def tabG:Nat:=0
def tabT:Nat:=295
def tabE:Nat:=153
theorem qu6 {W:World} (h:Lib.TabIs Tryz.prog W "internal/strconv.uint64pow10" .u64 Lib.pow10Tab):Tabs W (Old W):=by
 intro g cs hg;have e:=List.mem_singleton.1 hg;cases e;unfold Lib.TabIs World.var? at h;rw[show Tryz.prog.globalNamed "internal/strconv.uint64pow10" = some 0 by kernel_rfl]at h
 simp only[Option.bind_some]at h;split at h
 ·rename_i cs' e t hh;simp only[Option.some.injEq]at h;subst h;refine⟨?_,e,t,hh⟩;rcases Nat.lt_or_ge 0 W.heap.size with q | q
  ·exact q
  ·rw[Array.getElem?_eq_none q]at hh;cases hh
 ·cases h
end Rf
end
