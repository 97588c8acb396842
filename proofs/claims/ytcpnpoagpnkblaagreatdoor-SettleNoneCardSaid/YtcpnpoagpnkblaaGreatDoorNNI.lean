/- Merged: LibF Sam20 LibG. -/
import Derived.Test.YtcpnpoagpnkblaaGreatDoorNNC
import Derived.Test.YtcpnpoagpnkblaaGreatDoorNNE
import Derived.Shelf.SortM.Plain
import Derived.Shelf.SortM.SortNone
import Derived.Ground.SlgmProg
import Derived.Sort.OwnSorted
import Derived.Shelf.Slices.CompactS
import Derived.Laws.RangeString
import Derived.Laws.RangeAny
import Derived.LoopTactic
import Derived.Below
import Derived.Deep.QuietTactic
import Derived.BigQuiet
import Derived.Laws.StructEq
import Derived.Deep.LoopGhost
import Derived.WalkKit
set_option linter.unusedVariables false
set_option linter.unusedSimpArgs false
section
namespace Go.Proofs
open Go.RowKit Go.Maps Go.Sort Go.Shelf
def Tryz.sortL_ren:Go.Shelf.Ren:=⟨fun | 6=>81 | 8=>138 | 9=>137 | 19=>196 | 20=>197 | 21=>187 | 22=>188 | 23=>189 | 24=>190 | 25=>191 | 26=>192 | 27=>193 | 28=>194 | 29=>195 | 36=>224 | 31=>225 | 32=>226 | 37=>227 | 38=>228 | 39=>180 | 41=>252 | n=>n,fun | 27=>39 | 29=>9 | 3=>3 | 32=>182 | 26=>39 | 0=>0 | 44=>231 | 46=>153 | 4=>4 | 36=>223 | 35=>222 | 41=>228 | 5=>5 | 9=>9 | 53=>258 | 57=>262 | 63=>287 | 64=>288 | n=>n,fun | n=>n⟩
theorem Tryz.sortL:Go.Proofs.SlLaysM.n6 Tryz.prog Tryz.sortL_ren:={
  mixed:=by kernel_rfl
  f6:=⟨Tryz.f81.name,by decide,Tryz.func81.trans (congrArg some (by kernel_rfl))⟩
  f8:=Tryz.func138.trans (congrArg some (by kernel_rfl))
  f9:=⟨Tryz.f137.name,by decide,Tryz.func137.trans (congrArg some (by kernel_rfl))⟩
  f19:=Tryz.func196.trans (congrArg some (by kernel_rfl))
  f20:=Tryz.func197.trans (congrArg some (by kernel_rfl))
  f21:=⟨Tryz.f187.name,by decide,Tryz.func187.trans (congrArg some (by kernel_rfl))⟩
  f22:=⟨Tryz.f188.name,by decide,Tryz.func188.trans (congrArg some (by kernel_rfl))⟩
  f23:=⟨Tryz.f189.name,by decide,Tryz.func189.trans (congrArg some (by kernel_rfl))⟩
  f24:=⟨Tryz.f190.name,by decide,Tryz.func190.trans (congrArg some (by kernel_rfl))⟩
  f25:=⟨Tryz.f191.name,by decide,Tryz.func191.trans (congrArg some (by kernel_rfl))⟩
  f26:=⟨Tryz.f192.name,by decide,Tryz.func192.trans (congrArg some (by kernel_rfl))⟩
  f27:=⟨Tryz.f193.name,by decide,Tryz.func193.trans (congrArg some (by kernel_rfl))⟩
  f28:=⟨Tryz.f194.name,by decide,Tryz.func194.trans (congrArg some (by kernel_rfl))⟩
  f29:=⟨Tryz.f195.name,by decide,Tryz.func195.trans (congrArg some (by kernel_rfl))⟩
  f31:=Tryz.func225.trans (congrArg some (by kernel_rfl))
  f32:=Tryz.func226.trans (congrArg some (by kernel_rfl))
  f36:=⟨Tryz.f224.name,by decide,Tryz.func224.trans (congrArg some (by kernel_rfl))⟩
  f37:=⟨Tryz.f227.name,by decide,Tryz.func227.trans (congrArg some (by kernel_rfl))⟩
  f38:=⟨Tryz.f228.name,by decide,Tryz.func228.trans (congrArg some (by kernel_rfl))⟩
  f39:=⟨Tryz.f180.name,by decide,Tryz.func180.trans (congrArg some (by kernel_rfl))⟩
  f41:=⟨Tryz.f252.name,by decide,Tryz.func252.trans (congrArg some (by kernel_rfl))⟩
  t0:=Tryz.underlying0
  a0:=Tryz.isAgg0
  z0:=Tryz.sizeOf0
  v0:=Tryz.zeroValue0
  t3:=Tryz.underlying3
  a3:=Tryz.isAgg3
  z3:=Tryz.sizeOf3
  v3:=Tryz.zeroValue3
  t4:=Tryz.underlying4
  a4:=Tryz.isAgg4
  z4:=Tryz.sizeOf4
  v4:=Tryz.zeroValue4
  t5:=Tryz.underlying5
  a5:=Tryz.isAgg5
  z5:=Tryz.sizeOf5
  v5:=Tryz.zeroValue5
  t9:=Tryz.underlying9
  a9:=Tryz.isAgg9
  z9:=Tryz.sizeOf9
  v9:=Tryz.zeroValue9
  t26:=Tryz.underlying39
  a26:=Tryz.isAgg39
  z26:=Tryz.sizeOf39
  v26:=Tryz.zeroValue39
  t27:=Tryz.underlying39
  a27:=Tryz.isAgg39
  z27:=Tryz.sizeOf39
  v27:=Tryz.zeroValue39
  t29:=Tryz.underlying9
  a29:=Tryz.isAgg9
  z29:=Tryz.sizeOf9
  v29:=Tryz.zeroValue9
  t32:=Tryz.underlying182
  a32:=Tryz.isAgg182
  z32:=Tryz.sizeOf182
  v32:=Tryz.zeroValue182
  t35:=Tryz.underlying222
  a35:=Tryz.isAgg222
  z35:=Tryz.sizeOf222
  v35:=Tryz.zeroValue222
  t36:=Tryz.underlying223
  a36:=Tryz.isAgg223
  z36:=Tryz.sizeOf223
  v36:=Tryz.zeroValue223
  t41:=Tryz.underlying228
  a41:=Tryz.isAgg228
  z41:=Tryz.sizeOf228
  v41:=Tryz.zeroValue228
  t44:=Tryz.underlying231
  a44:=Tryz.isAgg231
  z44:=Tryz.sizeOf231
  v44:=Tryz.zeroValue231
  t46:=Tryz.underlying153
  a46:=Tryz.isAgg153
  z46:=Tryz.sizeOf153
  v46:=Tryz.zeroValue153
  t53:=Tryz.underlying258
  a53:=Tryz.isAgg258
  z53:=Tryz.sizeOf258
  v53:=Tryz.zeroValue258
  t57:=Tryz.underlying262
  a57:=Tryz.isAgg262
  z57:=Tryz.sizeOf262
  v57:=Tryz.zeroValue262
  t63:=Tryz.underlying287
  a63:=Tryz.isAgg287
  z63:=Tryz.sizeOf287
  v63:=Tryz.zeroValue287
  t64:=Tryz.underlying288
  a64:=Tryz.isAgg288
  z64:=Tryz.sizeOf288
  v64:=Tryz.zeroValue288 }
def Tryz.compactL_ren:Go.Shelf.Ren:=⟨fun | 194=>86 | n=>n,fun | 31=>39 | 9=>9 | 3=>3 | 4=>4 | 0=>0 | n=>n,fun | n=>n⟩
theorem Tryz.compactL:Go.Proofs.Lays.n194 Tryz.prog Tryz.compactL_ren:={
  mixed:=by kernel_rfl
  f194:=Tryz.func86.trans (congrArg some (by kernel_rfl))
  t0:=Tryz.underlying0
  a0:=Tryz.isAgg0
  z0:=Tryz.sizeOf0
  v0:=Tryz.zeroValue0
  t3:=Tryz.underlying3
  a3:=Tryz.isAgg3
  z3:=Tryz.sizeOf3
  v3:=Tryz.zeroValue3
  t4:=Tryz.underlying4
  a4:=Tryz.isAgg4
  z4:=Tryz.sizeOf4
  v4:=Tryz.zeroValue4
  t9:=Tryz.underlying9
  a9:=Tryz.isAgg9
  z9:=Tryz.sizeOf9
  v9:=Tryz.zeroValue9
  t31:=Tryz.underlying39
  a31:=Tryz.isAgg39
  z31:=Tryz.sizeOf39
  v31:=Tryz.zeroValue39 }
end Go.Proofs
namespace Rf
open Go Go.Proofs Go.RowKit Go.Sort Go.Lib Go.Shelf
theorem qtv{w:World}{g n off:Nat}{os:Array Obj}{cur:Array Value}{e:TypeId}{fr:Nat×Nat}(d:Array (List UInt8))(hb:w.heap[g]?=some (.cells cur e fr)) :
  (grow (putRow encStr (Sort.ahead w n) g off d) os).heap[g]?=some (.cells (putCells encStr off d cur) e fr):=by
 have hg:g<w.heap.size:=(Array.getElem?_eq_some_iff.1 hb).1;rw[heap_grow_old _ _ (by simpa using hg)];simp[putRow,mapBlock,Sort.ahead,Array.getElem?_modify,hb,onCells]
theorem qtw{w:World}{g n off:Nat}{os:Array Obj}(d:Array (List UInt8)):w.grownBy (grow (putRow encStr (Sort.ahead w n) g off d) os) (some g):=by
 refine⟨rfl,rfl,rfl,by simp,λk hk hne=>?_⟩;rw[heap_grow_old _ _ (by simpa using hk)];have:g≠k:=λe=>hne (by rw[e]);simp[putRow,mapBlock,Sort.ahead,Array.getElem?_modify,this]
theorem sort_len(l:List (List UInt8)):(sortL l).length=l.length:=(List.mergeSort_perm l _).length_eq
theorem str_enc(x:FV)(h:q69 x=true):∃s,x=.str s/\encStr (byts x)=.string s:=by
 cases x with
 |str s=>exact⟨s,rfl,by simp[encStr,byts]⟩
 |int _ _=>cases h
 |bool _=>cases h
 |raw _=>cases h
 |agg _=>cases h
 |list _ _=>cases h
 |ref _ _=>cases h
theorem sort_ok{E:Env}(hP:E.P=Tryz.prog){L L':List FV}(hL:sortExt L=some L'):Enters E.P 81/\q2w E.P 81 ⟨[.own 1],[.own 1],[]⟩ L L':=by
 rw[hP];refine⟨⟨Tryz.f81,Tryz.func81,rfl,by kernel_rfl⟩,λw S V G hS hTb hT hgo=>?_⟩;obtain⟨g,xs,V1,L1,rfl,rfl,hvr,hrest⟩:=hT;obtain⟨rfl,rfl,hG⟩:=hrest;unfold sortExt at hL;split at hL
 ·rename_i xs' heq;cases heq;split at hL
  ·rename_i hc;cases hL;obtain⟨hstr,hlen⟩:=hc;have hl:(sortL (xs.map byts)).length=xs.length:=by rw[sort_len,List.length_map]
   have hw0:∀b,q27 G b->¬ S b:=λb hb=>by
    obtain⟨i,g',sh,h,hn,rfl⟩:=hb;exact(hgo.own i g' sh h hn).2.1
   by_cases hn:g.nil=true
   ·obtain⟨hv1,hv2⟩:=hvr;rw[if_pos hn]at hv2;obtain⟨rfl,hcap⟩:=hv2;have hb:g.base=none:=by unfold Gh.base;rw[if_pos hn]
    rw[hb];refine(AnyM.slices_Sort_string_none Tryz.sortL none g.cap w).mono ?_;rintro e w' ⟨rfl,rfl⟩;refine⟨S,G,[],rfl,⟨g,[],[],[],by rw[hb];rfl,by unfold sortL;rw[List.map_nil,List.mergeSort_nil];rfl,⟨Nat.zero_le _,by rw[if_pos hn];exact⟨rfl,hcap⟩⟩,rfl,rfl,hG⟩,⟨Nat.le_refl _,λb _ _=>rfl,rfl,rfl,rfl,hS,λb h=>h,λb h=>.inl h,⟨hTb,hw0⟩⟩,⟨λi g' sh h h2=>?_,λi j g1 g2 s1 s2 h1 h2 a b c=>?_⟩⟩
    ·exact hgo.own i g' sh h h2
    ·exact hgo.inj i j g1 g2 s1 s2 h1 h2 a b c
   ·obtain⟨hv1,hv2⟩:=hvr;rw[if_neg hn]at hv2;obtain⟨vals,e,hh,hsz,hrow⟩:=hv2;have hb:g.base=some ⟨g.blk,g.off,none⟩:=by unfold Gh.base;rw[if_neg hn]
    have hblk:g.blk<w.heap.size:=(Array.getElem?_eq_some_iff.1 hh).1;have hH:Holds encStr w g.blk g.off (xs.map byts).toArray:=by
     intro j hj;have hj':j<xs.length:=by simpa using hj
     refine⟨?_,by simp[World.frozen?,hh]⟩;obtain⟨s,es,ee⟩:=str_enc xs[j] (List.all_eq_true.1 hstr _ (List.getElem_mem hj'));obtain⟨v,q1,q2⟩:=hrow.2 j 0 xs[j] (.str s) (List.getElem?_eq_getElem hj') (by rw[es];rfl);cases q2;have q1:w.cell? ⟨g.blk,g.off+(j*1+0),none⟩=some (.string s):=q1;rw[Nat.mul_one,Nat.add_zero]at q1;rw[q1,getElem!_pos _ j (by simpa using hj'),List.getElem_toArray,List.getElem_map,ee]
    have hcall:=AnyM.slices_Sort_string Tryz.sortL g.blk g.off g.cap (xs.map byts) w hH hblk (by rw[List.length_map];omega);rw[List.length_map]at hcall;rw[hb];refine hcall.mono ?_;rintro e2 w2 ⟨rfl,n,os,hw2⟩;have hh2:w2.heap[g.blk]?=some (.cells (putCells encStr g.off (sortL (xs.map byts)).toArray vals) e (0,0)):=by rw[hw2];exact qtv _ hh
    have hgr:w.grownBy w2 (some g.blk):=by rw[hw2];exact qtw _
    obtain⟨g1,g2,g3,g4,g5⟩:=hgr;have hgiven:q27 G g.blk:=⟨0,g,(some (1,xs.length),none),by rw[hG];rfl,by simpa using hn,rfl⟩
    refine⟨S,G,[],rfl,⟨g,(sortL (xs.map byts)).map sF,[],[],by rw[hb,List.length_map,hl];rfl,rfl,⟨by rw[List.length_map,hl];exact hv1,by
     rw[if_neg hn];refine⟨_,e,hh2,by unfold putCells;rw[Array.size_mapIdx];exact hsz,?_,?_⟩
     ·intro x hx;obtain⟨t,_,rfl⟩:=List.mem_map.1 hx
      exact⟨rfl,λc hc=>by
       rw[List.mem_singleton.1 hc];rfl⟩
     ·intro i j x c hi hj;rw[List.getElem?_map]at hi;cases hti:(sortL (xs.map byts))[i]? with
      |none=>rw[hti]at hi;cases hi
      |some t =>
       rw[hti]at hi;cases hi;have hj:[sF t][j]?=some c:=hj;cases j with
       |succ j=>cases hj
       |zero =>
        cases hj;obtain⟨hi2,ht⟩:=List.getElem?_eq_some_iff.1 hti;refine⟨encStr t,?_,?_⟩
        ·rw[q5c hh2,Nat.mul_one,Nat.add_zero];unfold putCells;have hb2:g.off+i<vals.size:=by omega
         rw[Array.getElem?_mapIdx,Array.getElem?_eq_getElem hb2,Option.map_some,if_pos ⟨by omega,by rw[List.size_toArray];omega⟩,Nat.add_sub_cancel_left,getElem!_pos _ i (by simpa using hi2),List.getElem_toArray,ht]
        ·exact FRep.str _⟩,rfl,rfl,by rw[List.length_map,hl];exact hG⟩,⟨g4,λb hb1 hb2=>g5 b hb1 (λq=>hb2 (by cases q;exact hgiven)),g1,g2,g3,λb h=>Nat.lt_of_lt_of_le (hS b h) g4,λb h=>h,λb h=>.inl h,⟨hTb,hw0⟩⟩,⟨λi g' sh h h2=>?_,λi j g1 g2 s1 s2 h1 h2 a b c=>?_⟩⟩
    ·obtain⟨r1,r2,r3⟩:=hgo.own i g' sh h h2;exact⟨Nat.lt_of_lt_of_le r1 g4,r2,r3⟩
    ·exact hgo.inj i j g1 g2 s1 s2 h1 h2 a b c
  ·cases hL
 ·cases hL
theorem qtx(l:List (List UInt8)):(Lib.compact l).length<=l.length:=by
 unfold Lib.compact Lib.compactUpTo;rw[List.length_map];have h:=List.length_filter_le (Lib.keeps l.toArray) (List.range l.toArray.toList.length);rw[List.length_range]at h;exact h
theorem qte{E:Env}(hP:E.P=Tryz.prog){L L':List FV}(hL:qbn L=some L'):Enters E.P 86/\q2w E.P 86 ⟨[.own 1],[.skip,.own 1],[]⟩ L L':=by
 rw[hP];refine⟨⟨Tryz.f86,Tryz.func86,rfl,by kernel_rfl⟩,λw S V G hS hTb hT hgo=>?_⟩;obtain⟨g,xs,V1,L1,rfl,rfl,hvr,hrest⟩:=hT;obtain⟨rfl,rfl,hG⟩:=hrest;unfold qbn at hL;split at hL
 ·rename_i xs' heq;cases heq;split at hL
  ·rename_i hc;cases hL;obtain⟨hstr,hlen⟩:=hc;have hl:(Lib.compact (xs.map byts)).length<=xs.length:=by have:=qtx (xs.map byts);rwa[List.length_map]at this
   have hw0:∀b,q27 G b->¬ S b:=λb hb=>by
    obtain⟨i,g',sh,h,hn,rfl⟩:=hb;exact(hgo.own i g' sh h hn).2.1
   by_cases hn:g.nil=true
   ·obtain⟨hv1,hv2⟩:=hvr;rw[if_pos hn]at hv2;obtain⟨rfl,hcap⟩:=hv2;have hb:g.base=none:=by unfold Gh.base;rw[if_pos hn]
    rw[hb];refine(Any.slices_Compact_string_empty Tryz.compactL none g.cap w).mono ?_;rintro e w' ⟨rfl,rfl⟩;refine⟨S,G,[.slice none 0 g.cap],rfl,⟨_,_,rfl,⟨g,[],[],[],by rw[hb];rfl,rfl,⟨Nat.zero_le _,by rw[if_pos hn];exact⟨rfl,hcap⟩⟩,rfl,rfl,hG⟩⟩,⟨Nat.le_refl _,λb _ _=>rfl,rfl,rfl,rfl,hS,λb h=>h,λb h=>.inl h,⟨hTb,hw0⟩⟩,⟨λi g' sh h h2=>?_,λi j g1 g2 s1 s2 h1 h2 a b c=>?_⟩⟩
    ·exact hgo.own i g' sh h h2
    ·exact hgo.inj i j g1 g2 s1 s2 h1 h2 a b c
   ·obtain⟨hv1,hv2⟩:=hvr;rw[if_neg hn]at hv2;obtain⟨vals,e,hh,hsz,hrow⟩:=hv2;have hb:g.base=some ⟨g.blk,g.off,none⟩:=by unfold Gh.base;rw[if_neg hn]
    have hblk:g.blk<w.heap.size:=(Array.getElem?_eq_some_iff.1 hh).1;have hH:Holds encStr w g.blk g.off (xs.map byts).toArray:=by
     intro j hj;have hj':j<xs.length:=by simpa using hj
     refine⟨?_,by simp[World.frozen?,hh]⟩;obtain⟨s,es,ee⟩:=str_enc xs[j] (List.all_eq_true.1 hstr _ (List.getElem_mem hj'));obtain⟨v,q1,q2⟩:=hrow.2 j 0 xs[j] (.str s) (List.getElem?_eq_getElem hj') (by rw[es];rfl);cases q2;have q1:w.cell? ⟨g.blk,g.off+(j*1+0),none⟩=some (.string s):=q1;rw[Nat.mul_one,Nat.add_zero]at q1;rw[q1,getElem!_pos _ j (by simpa using hj'),List.getElem_toArray,List.getElem_map,ee]
    have hcall:=Any.slices_Compact_string Tryz.compactL g.blk g.off g.cap (xs.map byts) w hH (by rw[List.length_map];omega) (by rw[List.length_map];exact hv1);rw[List.length_map]at hcall;rw[hb];refine hcall.mono ?_;rintro e2 w2 ⟨rfl,n,hw2⟩;generalize hd:(Lib.compact (xs.map byts)++List.replicate (xs.length-(Lib.compact (xs.map byts)).length) []).toArray=dd at hw2;have hdl:dd.size=xs.length:=by rw[<- hd,List.size_toArray,List.length_append,List.length_replicate];omega
    have hdg:∀i:Nat,∀t,(Lib.compact (xs.map byts))[i]?=some t->i<dd.size/\dd[i]! = t:=λi t h=>by
     obtain⟨hi,ht⟩:=List.getElem?_eq_some_iff.1 h;refine⟨by omega,?_⟩;rw[getElem!_pos _ i (by omega)];subst hd;rw[List.getElem_toArray,List.getElem_append_left hi,ht]
    have hg:g.blk<w.heap.size:=hblk;have hh2:w2.heap[g.blk]?=some (.cells (putCells encStr g.off dd vals) e (0,0)):=by
     rw[hw2];simp[putRow,mapBlock,Sort.ahead,Array.getElem?_modify,hh,onCells]
    have hgr:w.grownBy w2 (some g.blk):=by
     rw[hw2];refine⟨rfl,rfl,rfl,by simp[putRow,mapBlock,Sort.ahead],λk hk hne=>?_⟩;have:g.blk≠k:=λe=>hne (by rw[e]);simp[putRow,mapBlock,Sort.ahead,Array.getElem?_modify,this]
    obtain⟨g1,g2,g3,g4,g5⟩:=hgr;have hgiven:q27 G g.blk:=⟨0,g,(some (1,xs.length),none),by rw[hG];rfl,by simpa using hn,rfl⟩;have hG0:G[0]?=some (g,(some (1,xs.length),none)):=by rw[hG];rfl
    refine⟨S,[(g,(some (1,(Lib.compact (xs.map byts)).length),none))],[_],rfl,⟨_,_,rfl,⟨g,(Lib.compact (xs.map byts)).map sF,[],[],by rw[hb,List.length_map];rfl,rfl,⟨by rw[List.length_map];omega,by
     rw[if_neg hn];refine⟨_,e,hh2,by unfold putCells;rw[Array.size_mapIdx];exact hsz,?_,?_⟩
     ·intro x hx;obtain⟨t,_,rfl⟩:=List.mem_map.1 hx
      exact⟨rfl,λc hc=>by
       rw[List.mem_singleton.1 hc];rfl⟩
     ·intro i j x c hi hj;rw[List.getElem?_map]at hi;cases hti:(Lib.compact (xs.map byts))[i]? with
      |none=>rw[hti]at hi;cases hi
      |some t =>
       rw[hti]at hi;cases hi;have hj:[sF t][j]?=some c:=hj;cases j with
       |succ j=>cases hj
       |zero =>
        cases hj;obtain⟨hi2,ht⟩:=hdg i t hti;refine⟨encStr t,?_,?_⟩
        ·rw[q5c hh2,Nat.mul_one,Nat.add_zero];unfold putCells;have hb2:g.off+i<vals.size:=by omega
         rw[Array.getElem?_mapIdx,Array.getElem?_eq_getElem hb2,Option.map_some,if_pos ⟨by omega,by omega⟩,Nat.add_sub_cancel_left,ht]
        ·exact FRep.str _⟩,rfl,rfl,by rw[List.length_map];rfl⟩⟩,⟨g4,λb hb1 hb2=>g5 b hb1 (λq=>hb2 (by cases q;exact hgiven)),g1,g2,g3,λb h=>Nat.lt_of_lt_of_le (hS b h) g4,λb h=>h,λb h=>.inl h,⟨hTb,hw0⟩⟩,⟨λi g' sh h h2=>?_,λi j g1 g2 s1 s2 h1 h2 a b c=>?_⟩⟩
    ·cases i with
     |succ i=>simp at h
     |zero =>
      simp only[List.getElem?_cons_zero,Option.some.injEq,Prod.mk.injEq]at h;obtain⟨rfl,_⟩:=h;obtain⟨r1,r2,r3⟩:=hgo.own 0 g _ hG0 h2;exact⟨Nat.lt_of_lt_of_le r1 g4,r2,r3⟩
    ·cases i with
     |succ i=>simp at h1
     |zero =>
      cases j with
      |succ j=>simp at h2
      |zero=>rfl
  ·cases hL
 ·cases hL
end Rf
end
section
namespace Rf
open Go Go.RowKit Go.Shelf Go.Proofs
set_option maxRecDepth 100000 in
set_option maxHeartbeats 1000000 in
theorem same_nil(a1 a2:Option Addr)(c1 c2:Nat)(w:World):Calls Tryz.prog 36 #[.slice a1 0 c1,.slice a2 0 c2] w λe w'=>e=.returned (.bool true)/\Below w.heap.size w w':=by
 go_enter Tryz.func36,Tryz.ntmps36
 go_wp2
 go_loop [5] (λi=>i=.int .i64 0) (λ_=>0)
 case atStart=>rfl
 case round =>
  subst hrel
  go_wp2
  go_ret
  exact⟨rfl,Below.refl _ _⟩
structure Asd(p:Prop):Prop where
 out:p
def EnAt(W:World)(b o:Nat)(x:List UInt8×List UInt8):Prop:=W.cell? ⟨b,o,none⟩=some (.string (txt x.1))/\W.cell? ⟨b,o+1,none⟩=some (.string (txt x.2))
set_option maxRecDepth 100000 in
set_option maxHeartbeats 1000000 in
theorem same_some(b1 o1 b2 o2 c1 c2:Nat)(xs:List (List UInt8×List UInt8))(w0 w:World)(hw:Below w0.heap.size w0 w)(hl:xs.length<=1000000000)
  (h1:Asd (∀k x,xs[k]?=some x->∀W:World,Below w0.heap.size w0 W->EnAt W b1 (o1+k*2) x/\EnAt W b2 (o2+k*2) x)) :
  Calls Tryz.prog 36 #[.slice (some ⟨b1,o1,none⟩) xs.length c1,.slice (some ⟨b2,o2,none⟩) xs.length c2] w λe w'=>e=.returned (.bool true)/\Below w0.heap.size w0 w':=by
 go_enter Tryz.func36,Tryz.ntmps36
 go_wp2
 go_loopw [5] (λi W=>Below w0.heap.size w0 W/\∃k:Nat,k<=xs.length/\i=.int .i64 k) (λi _=>xs.length-(RowKit.intOf i).toNat)
 case atStart=>exact⟨hw,0,Nat.zero_le _,rfl⟩
 case round =>
  obtain⟨hB,k,hk,rfl⟩:=hrel;by_cases hlt:k<xs.length
  ·obtain⟨⟨p0,p1⟩,⟨q0,q1⟩⟩:=h1.out k xs[k] (List.getElem?_eq_getElem hlt) wr hB;have hi:(k:Int)<(xs.length:Int):=by omega
   have hB':Asd (Below w0.heap.size w0 wr):=⟨hB⟩;clear hB hw h1;generalize xs[k]=x at *
   go_wp2
   go_quiet (fail)
   go_wp2
   go_roundw
   case rel=>exact⟨⟨hB'.out.os,hB'.out.tape,hB'.out.output,hB'.out.size,hB'.out.block⟩,k+1,by omega,by go_num⟩
   case measure=>simp[RowKit.intOf];omega
  ·have:k=xs.length:=by omega
   subst this;have hi:¬ (xs.length:Int)<(xs.length:Int):=by omega
   go_wp2
   go_ret
   exact⟨rfl,hB⟩
theorem qmq{w:World}{S:Nat->Prop}{b o:Nat}{ys:List (List UInt8×List UInt8)}(h:Row w S b o 2 (ys.map enT)){k:Nat}{x:List UInt8×List UInt8}(hk:ys[k]?=some x){W:World}(hW:W.heap[b]?=w.heap[b]?):EnAt W b (o+k*2) x:=by
 have hx:(ys.map enT)[k]?=some (enT x):=by rw[List.getElem?_map,hk];rfl
 have get:∀(j:Nat) (c:FV),(enT x).cells[j]?=some c->∃v,W.cell? ⟨b,o+k*2+j,none⟩=some v/\FRep w S c v:=λj c hj=>by
  obtain⟨v,h1,h2⟩:=h.2 k j (enT x) c hx hj;refine⟨v,?_,h2⟩;have e:cellAt W b (o+(k*2+j))=cellAt w b (o+(k*2+j)):=q9d hW _;rw[h1,<- Nat.add_assoc]at e;exact e
 refine⟨?_,?_⟩
 ·obtain⟨v,h1,h2⟩:=get 0 _ rfl;cases h2;exact h1
 ·obtain⟨v,h1,h2⟩:=get 1 _ rfl;cases h2;exact h1
theorem same_ok{L L':List FV}(hL:sameExt L=some L'):Enters Tryz.prog 36/\q2w Tryz.prog 36 ⟨[.lst 2,.lst 2],[.skip,.skip,.bool],((fnT 36).getD ⟨[],[],[]⟩).ann⟩ L L':=by
 refine⟨⟨Tryz.f36,Tryz.func36,rfl,by kernel_rfl⟩,λw S V G hS hTb hT hgo=>?_⟩;obtain⟨v,V',x,L0,rfl,rfl,hlf,hfr,h0⟩:=hT;obtain⟨v2,V2,x2,L2,rfl,rfl,hlf2,hfr2,h0⟩:=h0;obtain⟨rfl,rfl,rfl⟩:=h0;unfold sameExt at hL;split at hL
 ·rename_i xs xs' heq;cases heq;split at hL
  ·rename_i hc;obtain⟨l,rfl,rfl,hlen⟩:=hc;cases hL;obtain⟨a1,cap1,b1,o1,rfl,hc1,ha1,hrow1⟩:=FRep.q30.1 hfr;obtain⟨a2,cap2,b2,o2,rfl,hc2,ha2,hrow2⟩:=FRep.q30.1 hfr2;have hlen':(l.map enT).length=l.length:=List.length_map _;have back:∀ {w':World},Below w.heap.size w w' ->
     ∃S' fin' R,Ending.returned (.bool true)=.returned (resV R)/\TRep w' S' [.skip,.skip,.bool] ([.slice a1 l.length cap1,.slice a2 l.length cap2]++R) [.bool true] [] fin'/\Keep ⟨w,S,q27 [],0,λ_=>none⟩ w' S'/\GOk ⟨w,S,q27 [],0,λ_=>none⟩ w' S' fin':=fun {w'} hB =>
    ⟨S,[],[.bool true],rfl,⟨_,_,rfl,_,_,rfl,.bool true,[],.bool true,[],rfl,rfl,trivial,.bool _,rfl,rfl,rfl⟩,q6f hS hTb hB,q7l⟩
   rw[hlen'];by_cases hne:l=[]
   ·subst hne;refine(same_nil a1 a2 cap1 cap2 w).mono ?_;rintro e w' ⟨rfl,hB⟩;exact back hB
   ·obtain⟨rfl,hS1⟩:=ha1 (by simpa using hne);obtain⟨rfl,hS2⟩:=ha2 (by simpa using hne);refine(same_some b1 o1 b2 o2 cap1 cap2 l w w (Below.refl _ _) hlen ⟨λk x hk W hW=>⟨qmq hrow1 hk (hW.block _ (hS _ hS1)),qmq hrow2 hk (hW.block _ (hS _ hS2))⟩⟩).mono ?_;rintro e w' ⟨rfl,hB⟩;exact back hB
  ·cases hL
 ·cases hL
end Rf
end
section
namespace Rf
open Go Go.Proofs Go.RowKit Go.Sort Go.Lib Go.Shelf
set_option maxHeartbeats 3200000 in
set_option maxRecDepth 100000 in
theorem qt9(u:Nat)(hu:u<100)(w:World):Calls Tryz.prog 210 #[.int .i64 u,.int .i64 10] w λe w'=>e=.returned (.string ⟨(Lib.decDigits u).toArray⟩)/\w'=w:=by
 go_enter Tryz.func210,Tryz.ntmps210
 go_wp2_with (go_at_call 242;refine(Any.internal_strconv_small Tryz.lSmall u hu _).mono ?_;rintro e w' ⟨rfl,rfl⟩)
 go_ret
 exact⟨rfl,rfl⟩
set_option maxHeartbeats 3200000 in
theorem qta(u:Nat)(hu:u<100)(w:World):Calls Tryz.prog 90 #[.int .i64 u] w λe w'=>e=.returned (.string ⟨(Lib.decDigits u).toArray⟩)/\w'=w:=by
 have hin:∀w:World,Calls Tryz.prog 161 #[.int .i64 u] w λe w'=>e=.returned (.string ⟨(Lib.decDigits u).toArray⟩)/\w'=w:=λw=>by
  go_enter Tryz.func161,Tryz.ntmps161
  go_wp2_with (go_at_call 210;refine(qt9 u hu _).mono ?_;rintro e w' ⟨rfl,rfl⟩)
  go_ret
  exact⟨rfl,rfl⟩
 go_enter Tryz.func90,Tryz.ntmps90
 go_wp2_with (go_at_call 161;refine(hin _).mono ?_;rintro e w' ⟨rfl,rfl⟩)
 go_ret
 exact⟨rfl,rfl⟩
theorem itoa_ok{E:Env}(hP:E.P=Tryz.prog){L L':List FV}(hL:itoaExt L=some L'):Enters E.P 90/\q2w E.P 90 ⟨[.int .i64],[.skip,.str],[]⟩ L L':=by
 rw[hP];refine⟨⟨Tryz.f90,Tryz.func90,rfl,by kernel_rfl⟩,λw S V G hS hTb hT hgo=>?_⟩;obtain⟨v1,V1,x1,L1,rfl,rfl,hl1,hf1,rfl,rfl,rfl⟩:=hT;unfold itoaExt at hL;split at hL
 ·rename_i z heq;cases heq;split at hL
  ·rename_i hc;cases hL;cases hf1;obtain⟨m,rfl⟩:∃m:Nat,z=m:=⟨z.toNat,by omega⟩;have h:=qta m (by omega) w;rw[qj6]at h;refine h.mono ?_;rintro e w' ⟨rfl,rfl⟩;exact⟨S,[],[.string (txt (qk m))],rfl,⟨_,_,rfl,_,[],_,[],rfl,rfl,trivial,.str _,rfl,rfl,rfl⟩,q6f hS hTb (Below.refl _ _),q7l⟩
  ·cases hL
 ·cases hL
set_option maxHeartbeats 3200000 in
theorem qlg(r:Nat)(w:World):Calls Tryz.prog 149 #[.int .i32 r] w λe w'=>e=.returned (.bool (q5o r))/\w'=w:=by
 have h1:decide ((97:Int)<=(r:Int))=decide (97<=r):=decide_eq_decide.2 (by omega);have h2:decide ((r:Int)<=122)=decide (r<=122):=decide_eq_decide.2 (by omega);have h3:decide ((945:Int)<=(r:Int))=decide (945<=r):=decide_eq_decide.2 (by omega);have h4:decide ((r:Int)<=969)=decide (r<=969):=decide_eq_decide.2 (by omega)
 go_enter Tryz.func149,Tryz.ntmps149
 go_wp2
 all_goals
  go_ret
  refine⟨?_,rfl⟩;show Ending.returned (Value.bool _)=_;refine congrArg (λb=>Ending.returned (Value.bool b)) ?_;unfold q5o;rw[Bool.eq_iff_iff];simp only[Bool.or_eq_true,Bool.and_eq_true,decide_eq_true_eq,Bool.false_eq_true,true_iff,false_iff];omega
set_option maxHeartbeats 3200000 in
theorem qlh(r:Nat)(w:World):Calls Tryz.prog 166 #[.int .i32 r] w λe w'=>∃k:Int,e=.returned (.int .i64 k)/\(k=1↔q5o r=true)/\w'=w:=by
 go_enter Tryz.func166,Tryz.ntmps166
 go_wp2
 all_goals
  go_ret
  refine⟨_,rfl,?_,rfl⟩;unfold q5o
  try simp only[Bool.or_eq_true,Bool.and_eq_true,decide_eq_true_eq,beq_iff_eq,beq_eq_false_iff_ne]at *
  first
   |omega
   |(simp;omega)
   |(simp;done)
theorem qli(s:ByteArray)(pos:Nat)(h:pos<s.size):1<=(Utf8.decode s pos).2:=by
 by_cases ha:(s[pos]'h).toNat<128
 ·rw[decode_ascii s pos h ha];exact Nat.le_refl _
 ·exact(decode_high s pos h (by omega)).2
theorem qlj(s:ByteArray)(b pos n:Nat)(h:¬ pos<s.size):nameF s b pos n=(decide (1<=n)&&decide (n<=8)):=by
 cases b with
 |zero=>rfl
 |succ b=>simp[nameF,h]
theorem wrap_n{n:Nat}(h:n<=1125899906842625:=by omega):w6 ((n:Int)+1)=((n+1:Nat):Int):=q3w (x:=n+1)
set_option maxRecDepth 1000000 in
set_option maxHeartbeats 4000000 in
theorem qtb(s:ByteArray)(hs:s.size<=1125899906842624)(w:World) :
  Calls Tryz.prog 87 #[.string s] w λe w'=>e=.returned (.bool (q2t s))/\∃pos,w'=w.iter s pos:=by
 go_enter Tryz.func87,Tryz.ntmps87
 go_wp2
 go_loopw [3] (λn w'=>∃(pos b k:Nat),w'=w.iter s pos/\n=.int .i64 (k:Int)/\nameF s b pos k=q2t s/\s.size<=pos+b/\k<=pos) (λ_ w'=>s.size-w'.iterPos w.heap.size)
 case atStart=>exact⟨0,s.size,0,rfl,rfl,rfl,by omega,by omega⟩
 case round =>
  obtain⟨pos,b,k,rfl,rfl,hc,hb,hk⟩:=hrel;by_cases hp:pos<s.size
  ·have hnx:∀ty,(Instr.next (.pointer (some ⟨w.heap.size,0,none⟩)) true ty).run Tryz.prog (w.iter s pos)=_:=λty=>run_next_any w s pos ty hp;have hwd:=qli s pos hp;have hkw:w6 ((k:Int)+1)=((k+1:Nat):Int):=wrap_n;obtain⟨b,rfl⟩:=qSx b;have hyes:q5o (Utf8.decode s pos).1=true ->
     (∃pos_1 b k_1:Nat,w.iter s (pos+(Utf8.decode s pos).2)=w.iter s pos_1/\Value.int .i64 ((k:Int)+1)=Value.int .i64 (k_1:Int)/\nameF s b pos_1 k_1=q2t s/\s.size<=pos_1+b/\k_1<=pos_1) /\
     s.size-(w.iter s (pos+(Utf8.decode s pos).2)).iterPos w.heap.size<s.size-(w.iter s pos).iterPos w.heap.size:=λh=>by
    refine⟨⟨pos+(Utf8.decode s pos).2,b,k+1,rfl,rfl,?_,by omega,by omega⟩,?_⟩
    ·rw[<- hc,nameF,if_pos hp,if_pos h]
    ·simp only[World.iterPos_iter];omega
   have hno:q5o (Utf8.decode s pos).1=false->q2t s=false:=λh=>by
    rw[<- hc,nameF,if_pos hp,h];rfl
   clear hc;cases hlb:q5o (Utf8.decode s pos).1 with
   |true =>
    have hl:∀w,Calls Tryz.prog 149 #[.int .i32 (Utf8.decode s pos).1] w λe w'=>e=.returned (.bool true)/\w'=w:=λw=>by rw[<- hlb];exact qlg _ w
    clear hno
    go_wp2_with (go_at_call 149;refine(hl _).mono ?_;rintro e w' ⟨rfl,rfl⟩)
    exact hyes hlb
   |false =>
    have hl:∀w,Calls Tryz.prog 149 #[.int .i32 (Utf8.decode s pos).1] w λe w'=>e=.returned (.bool false)/\w'=w:=λw=>by rw[<- hlb];exact qlg _ w
    clear hyes;have hf:=hno hlb
    go_wp2_with (go_at_call 149;refine(hl _).mono ?_;rintro e w' ⟨rfl,rfl⟩)
    go_ret
    exact⟨by rw[hf];rfl,_,rfl⟩
  ·have hnx:∀ty,(Instr.next (.pointer (some ⟨w.heap.size,0,none⟩)) true ty).run Tryz.prog (w.iter s pos)=_:=λty=>run_next_end w s pos ty hp;rw[qlj s b pos k hp]at hc
   go_wp2
   all_goals (go_ret;refine⟨?_,_,rfl⟩;rw[<- hc];first | (rw[show decide (1<=k)=true from decide_eq_true (by omega),Bool.true_and];show Ending.returned (Value.bool (decide ((k:Int)<=8)))=_;congr 2;exact decide_eq_decide.2 (by omega)) | (rw[show decide (1<=k)=false from decide_eq_false (by omega)];rfl))
set_option maxRecDepth 1000000 in
set_option maxHeartbeats 4000000 in
theorem qtc(s:ByteArray)(hs:s.size<=1125899906842624)(w:World) :
  Calls Tryz.prog 97 #[.string s] w λe w'=>e=.returned (.bool (q2t s))/\∃pos,w'=w.iter s pos:=by
 go_enter Tryz.func97,Tryz.ntmps97
 go_wp2
 go_loopw [3] (λn w'=>∃(pos b k:Nat),w'=w.iter s pos/\n=.int .i64 (k:Int)/\nameF s b pos k=q2t s/\s.size<=pos+b/\k<=pos) (λ_ w'=>s.size-w'.iterPos w.heap.size)
 case atStart=>exact⟨0,s.size,0,rfl,rfl,rfl,by omega,by omega⟩
 case round =>
  obtain⟨pos,b,k,rfl,rfl,hc,hb,hk⟩:=hrel;by_cases hp:pos<s.size
  ·have hnx:∀ty,(Instr.next (.pointer (some ⟨w.heap.size,0,none⟩)) true ty).run Tryz.prog (w.iter s pos)=_:=λty=>run_next_any w s pos ty hp;have hwd:=qli s pos hp;have hkw:w6 ((k:Int)+1)=((k+1:Nat):Int):=wrap_n;obtain⟨b,rfl⟩:=qSx b;have hyes:q5o (Utf8.decode s pos).1=true ->
     (∃pos_1 b k_1:Nat,w.iter s (pos+(Utf8.decode s pos).2)=w.iter s pos_1/\Value.int .i64 ((k:Int)+1)=Value.int .i64 (k_1:Int)/\nameF s b pos_1 k_1=q2t s/\s.size<=pos_1+b/\k_1<=pos_1) /\
     s.size-(w.iter s (pos+(Utf8.decode s pos).2)).iterPos w.heap.size<s.size-(w.iter s pos).iterPos w.heap.size:=λh=>by
    refine⟨⟨pos+(Utf8.decode s pos).2,b,k+1,rfl,rfl,?_,by omega,by omega⟩,?_⟩
    ·rw[<- hc,nameF,if_pos hp,if_pos h]
    ·simp only[World.iterPos_iter];omega
   have hno:q5o (Utf8.decode s pos).1=false->q2t s=false:=λh=>by
    rw[<- hc,nameF,if_pos hp,h];rfl
   clear hc;cases hlb:q5o (Utf8.decode s pos).1 with
   |true =>
    have hl:∀w,Calls Tryz.prog 166 #[.int .i32 (Utf8.decode s pos).1] w λe w'=>e=.returned (.int .i64 1)/\w'=w:=λw=>by
     refine(qlh _ w).mono ?_;rintro e w' ⟨k,rfl,h,rfl⟩;rw[h.2 hlb];exact⟨rfl,rfl⟩
    clear hno
    go_wp2_with (go_at_call 166;refine(hl _).mono ?_;rintro e w' ⟨rfl,rfl⟩)
    exact hyes hlb
   |false =>
    have hl:∀w,Calls Tryz.prog 166 #[.int .i32 (Utf8.decode s pos).1] w λe w'=>∃k:Int,e=.returned (.int .i64 k)/\k≠1/\w'=w:=λw=>by
     refine(qlh _ w).mono ?_;rintro e w' ⟨k,rfl,h,rfl⟩;exact⟨k,rfl,λe=>(by rw[h.1 e]at hlb;cases hlb),rfl⟩
    clear hyes;have hf:=hno hlb
    go_wp2_with (go_at_call 166;refine(hl _).mono ?_;rintro e w' ⟨k,rfl,hk1,rfl⟩)
    all_goals first
     |(go_ret;exact⟨by rw[hf];rfl,_,rfl⟩)
     |(exfalso;simp_all)
  ·have hnx:∀ty,(Instr.next (.pointer (some ⟨w.heap.size,0,none⟩)) true ty).run Tryz.prog (w.iter s pos)=_:=λty=>run_next_end w s pos ty hp;rw[qlj s b pos k hp]at hc
   go_wp2
   all_goals (go_ret;refine⟨?_,_,rfl⟩;rw[<- hc];first | (rw[show decide (1<=k)=true from decide_eq_true (by omega),Bool.true_and];show Ending.returned (Value.bool (decide ((k:Int)<=8)))=_;congr 2;exact decide_eq_decide.2 (by omega)) | (rw[show decide (1<=k)=false from decide_eq_false (by omega)];rfl))
theorem qtd(w:World)(s:ByteArray)(pos:Nat):Below w.heap.size w (w.iter s pos):=(Below.refl _ w).alloc (Nat.le_refl _) _
theorem name_ok{E:Env}(hP:E.P=Tryz.prog){f:FuncId}(hen:Enters Tryz.prog f)(hw:∀s:ByteArray,s.size<=1125899906842624->∀w:World,Calls Tryz.prog f #[.string s] w λe w'=>e=.returned (.bool (q2t s))/\∃pos,w'=w.iter s pos)
  {L L':List FV} (hL:nameExt L=some L'):Enters E.P f/\q2w E.P f ⟨[.str],[.skip,.bool],[]⟩ L L':=by
 rw[hP];refine⟨hen,λw S V G hS hTb hT hgo=>?_⟩;obtain⟨v1,V1,x1,L1,rfl,rfl,hl1,hf1,rfl,rfl,rfl⟩:=hT;unfold nameExt at hL;split at hL
 ·rename_i s heq;cases heq;split at hL
  ·rename_i hs;cases hL;cases hf1;refine(hw s hs w).mono ?_;rintro e w' ⟨rfl,pos,rfl⟩;have hB:=qtd w s pos;exact⟨S,[],[.bool (q2t s)],rfl,⟨_,_,rfl,_,[],_,[],rfl,rfl,trivial,.bool _,rfl,rfl,rfl⟩,q6f hS hTb hB,q7l⟩
  ·cases hL
 ·cases hL
theorem extD_ok(hX:q68 En):q68 EnD:=by
 intro f g i L L' hf hi hL;have hf:lookN f ((36,sameExt)::(86,qbn)::(81,sortExt)::(90,itoaExt)::(87,nameExt)::(97,nameExt)::(lims EnB [15,17]++(lims En rndF++extN)))=some g:=hf;rcases q91 hf with⟨rfl,rfl⟩ | hf
 ·rw[show EnD.fn 36=some ⟨[.lst 2,.lst 2],[.skip,.skip,.bool],((fnT 36).getD ⟨[],[],[]⟩).ann⟩ by kernel_rfl]at hi;cases hi;exact same_ok hL
 rcases q91 hf with⟨rfl,rfl⟩ | hf
 ·rw[show EnD.fn 86=some ⟨[.own 1],[.skip,.own 1],[]⟩ by kernel_rfl]at hi;cases hi;exact qte rfl hL
 rcases q91 hf with⟨rfl,rfl⟩ | hf
 ·rw[show EnD.fn 81=some ⟨[.own 1],[.own 1],[]⟩ by kernel_rfl]at hi;cases hi;exact sort_ok rfl hL
 rcases q91 hf with⟨rfl,rfl⟩ | hf
 ·rw[show EnD.fn 90=some ⟨[.int .i64],[.skip,.str],[]⟩ by kernel_rfl]at hi;cases hi;exact itoa_ok rfl hL
 rcases q91 hf with⟨rfl,rfl⟩ | hf
 ·rw[show EnD.fn 87=some ⟨[.str],[.skip,.bool],[]⟩ by kernel_rfl]at hi;cases hi;exact name_ok rfl ⟨Tryz.f87,Tryz.func87,rfl,by kernel_rfl⟩ qtb hL
 rcases q91 hf with⟨rfl,rfl⟩ | hf
 ·rw[show EnD.fn 97=some ⟨[.str],[.skip,.bool],[]⟩ by kernel_rfl]at hi;cases hi;exact name_ok rfl ⟨Tryz.f97,Tryz.func97,rfl,by kernel_rfl⟩ qtc hL
 rcases qct hf with hf | hf
 ·rw[q93 hf]at hL;exact q92 envOkB (extB_ok hX) hi hL
 rcases qct hf with hf | hf
 ·rw[q93 hf]at hL;exact q92 envOk hX hi hL
 ·rw[q93 hf]at hL;exact q92 envOk hX hi hL
end Rf
end
