/- Texts of this work put together, their blanks and comments taken out: LibB. -/
import Derived.Shelf.Lay
import Derived.Ground.NamesProg
import Derived.Shelf.LaysM
import Derived.Shelf.Strings.Search1
import Derived.Shelf.Strconv.Itoa1
import Derived.Shelf.Strconv.Itoa2
import Derived.Test.YtcpnpoagpnkblaaGreatDoorProg
import Derived.Lib.Walk
import Derived.Lib.ItoaMem
import Derived.Lib.AppendIntMem
import Derived.WalkKit
import Derived.BigCall
import Derived.BigGuard
import Derived.Shelf.Strings.SlTrimAscii
import Derived.Shelf.Strings.Repeat
import Derived.Shelf.Strconv.ParseUint10At
import Derived.Test.YtcpnpoagpnkblaaGreatDoorOMH
import Derived.Test.YtcpnpoagpnkblaaGreatDoorOMG
import Derived.LoopTactic
import Derived.Deep.LoopGhost
set_option linter.unusedVariables false
set_option linter.unusedSimpArgs false
section
section
/- The library's contracts of the shelf, laid at this program. -/
namespace Go.Proofs
open Go.Shelf
shelf_lay Lays.n217 Nm 217 at Tryz as Tryz.lIndexByte
shelf_lay Lays.n283 Nm 283 at Tryz as Tryz.lSmall
shelf_lay LaysM.n284 Nm 284 at Tryz as Tryz.lDigits
shelf_lay Lays.n285 Nm 285 at Tryz as Tryz.lBase10
end Go.Proofs
end
section
namespace Rf
open Go Go.Proofs Go.Shelf Go.RowKit Go.Sort Go.Lib
theorem below_gd(w:World)(q:Nat)(os:Array Obj):Below w.heap.size w (grow (w.drewN q) os):=by
 refine⟨rfl,rfl,rfl,?_,λb hb=>?_⟩
 ·show w.heap.size<=(w.heap++os).size;simp
 ·show(w.heap++os)[b]?=w.heap[b]?;rw[Array.getElem?_append_left hb]
theorem fin0(w:World)(o:Obj)(dk:Array UInt8)(k:Nat):∃os,(putRow (λ(b:UInt8)=>Value.int .u8 (b.toNat:Int)) (w.alloc o) w.heap.size 0 dk).drewN k=grow (w.drewN k) os:=by
 rw[alloc_eq_grow];obtain⟨os',_,e⟩:=putRow_grow_new (λ(b:UInt8)=>Value.int .u8 (b.toNat:Int)) w #[o] w.heap.size 0 dk (Nat.le_refl _);exact⟨os',by rw[e];rfl⟩
set_option maxHeartbeats 6400000 in
set_option maxRecDepth 100000 in
theorem formatIn (u:Nat) (hu64:u<18446744073709551616) (w:World) (htab:Lib.TabIs Tryz.prog w "internal/strconv.uint64pow10" .u64 Lib.pow10Tab) :
  Calls Tryz.prog 235 #[.int .u64 u,.int .i64 10] w λe w'=>e=.returned (.string ⟨(Lib.decDigits u).toArray⟩)/\Below w.heap.size w w':=by
 by_cases hs:u<100
 ·go_enter Tryz.func235,Tryz.ntmps235
  go_wp2_with (go_at_call 242;refine(Any.internal_strconv_small Tryz.lSmall u hs _).mono ?_;rintro e w' ⟨rfl,rfl⟩)
  go_ret
  exact⟨rfl,Below.refl _ _⟩
 ·have hu1:1<=u:=by omega
  have hnd20:Lib.nDigits u<=20:=by have:=Lib.numDigits_eq u hu1 hu64;split at this <;> omega
  have hal:Tryz.prog.arrayLen 279=24:=by kernel_rfl
  have hsl1:∀W,(Instr.sliceAt 279 (.pointer (some ⟨w.heap.size,0,none⟩)) none (some (.int .i64 (Lib.nDigits u:Int))) none).run Tryz.prog W=.ok (.slice (some ⟨w.heap.size,0,none⟩) (Lib.nDigits u) 24) W:=λW=>by
   rw[run_sliceAt_array_h W 279 ⟨w.heap.size,0,none⟩ (by kernel_rfl) .i64 (Lib.nDigits u:Int) (by omega) (by rw[hal];omega)];rw[hal,show Tryz.prog.elem 279=5 by kernel_rfl];have z5:(Go.sizeOf 5).run Tryz.prog W=.ok 1 W:=Tryz.lBase10.z5 W;rw[z5];simp[Result.andThen,slicedAt,Lib.add_plain]
  have hH0:=Lib.holds_zero0 w 279 (Lib.nDigits u) (by omega);have hfmt:=Any.internal_strconv_formatBase10 Tryz.lBase10 w.heap.size 0 24 u (Array.replicate (Lib.nDigits u) 0) (w.alloc (.cells Lib.zeros24 279)) hH0 (by rw[Array.size_replicate];exact Lib.lt_pow_nDigits u) hu64 (by rw[Array.size_replicate];omega);rw[Array.size_replicate]at hfmt;have HH0:=Lib.hid hH0;clear hH0 hal
  go_enter Tryz.func235,Tryz.ntmps235
  go_wp2_with (first
   |(go_at_call 243;refine(Any.internal_strconv_numDigits Tryz.lDigits u hu1 hu64 _ (Lib.tabIs_alloc htab _)).mono ?_;rintro e w' ⟨rfl,rfl⟩))
  go_at_call 244
  refine hfmt.mono ?_;rintro e w' ⟨rfl,k,v',dk,rfl,hF⟩;have hcv:(convert 200 9 (.slice (some ⟨w.heap.size,0,none⟩) (Lib.nDigits u) 24)).run Tryz.prog ((putRow (λ(b:UInt8)=>Value.int .u8 (b.toNat:Int)) (w.alloc (.cells Lib.zeros24 279)) w.heap.size 0 dk).drewN k)=.ok (.string ⟨(Lib.decDigits u).toArray⟩) ((putRow (λ(b:UInt8)=>Value.int .u8 (b.toNat:Int)) (w.alloc (.cells Lib.zeros24 279)) w.heap.size 0 dk).drewN k):=by
   have h:=run_convert_bytes_back (P:=Tryz.prog) ((putRow (λ(b:UInt8)=>Value.int .u8 (b.toNat:Int)) (w.alloc (.cells Lib.zeros24 279)) w.heap.size 0 dk).drewN k) 200 9 5 ⟨w.heap.size,0,none⟩ 24 (Lib.decDigits u) (by kernel_rfl) (by kernel_rfl) (by kernel_rfl) (λj hj=>by
    rw[Lib.row_is_numeral hF j hj,Lib.add_plain,World.cell?_drewN]
    exact cell?_putRow (λ(b:UInt8)=>Value.int .u8 (b.toNat:Int)) _ w.heap.size 0 _ dk HH0.out (by rw[hF.size,Array.size_replicate]) j (by rw[hF.size];rw[Lib.decDigits_length]at hj;exact hj))
   rw[Lib.decDigits_length]at h;exact h
  go_wp2
  go_ret
  obtain⟨os,eo⟩:=fin0 w (.cells Lib.zeros24 279) dk k;exact⟨rfl,by rw[eo];exact below_gd w k os⟩
theorem qqa (u:Nat) (hu64:u<18446744073709551616) (w:World) (htab:Lib.TabIs Tryz.prog w "internal/strconv.uint64pow10" .u64 Lib.pow10Tab) :
  Calls Tryz.prog 206 #[.int .u64 u,.int .i64 10] w λe w'=>e=.returned (.string ⟨(Lib.decDigits u).toArray⟩)/\Below w.heap.size w w':=by
 go_enter Tryz.func206,Tryz.ntmps206
 go_wp2_with (go_at_call 235;refine(formatIn u hu64 _ htab).mono ?_;rintro e w' ⟨rfl,hB⟩)
 go_ret
 exact⟨rfl,hB⟩
end Rf
end
section
namespace Go.Proofs
open Go.Shelf
shelf_lay Lays.n160 Nm 160 at Tryz as Tryz.lTrim
shelf_lay Lays.n105 Nm 105 at Tryz as Tryz.lRepeat
shelf_lay Lays.n287 Nm 287 at Tryz as Tryz.lParse
theorem Tryz.xRepeat:Builder.Extra Tryz.prog Tryz.lRepeat_ren where
 sizeBuilder:=by kernel_rfl
 liesBuilder:=by kernel_rfl
 t5:=Tryz.lRepeat.t5
 a5:=Tryz.lRepeat.a5
 z5:=Tryz.lRepeat.z5
 v5:=Tryz.lRepeat.v5
 infoByte:=by kernel_rfl
 cellsByte:=by kernel_rfl
 sizeByte:=by kernel_rfl
 neB5:=by decide
end Go.Proofs
namespace Rf
open Go Go.Proofs Go.Shelf Go.RowKit Go.Sort Go.Lib
theorem qk4:∀(n:Nat),decDigits n=ql n:=by
 have key:∀n,n≠0->decDigits n=((Rf.dg 10 n).reverse).map chD:=by
  intro n
  induction n using Nat.strongRecOn with
  |_ n ih =>
   intro h0;rw[decDigits,q3h (by omega) h0];by_cases h:n<10
   ·rw[dif_pos h,Nat.div_eq_of_lt h,q18,Nat.mod_eq_of_lt h];rfl
   ·rw[dif_neg h,ih (n / 10) (by omega) (by omega),List.reverse_cons,List.map_append];rfl
 intro n;unfold ql;by_cases h:n=0
 ·subst h;rw[if_pos rfl,decDigits];rfl
 ·rw[if_neg h,key n h]
theorem qk5(c:UInt8):∀k,repeatL [c] k=List.replicate k c
 |0=>rfl
 |k+1=>by rw[repeatL,qk5 c k,List.replicate_succ];rfl
theorem qk6{M:Nat}(hM:M<18446744073709551616):∀(l:List UInt8) (acc:Nat),(∀c,c∈l->isD c=true)->acc*10^l.length+vD l<=M->acc*10^l.length+vD l<1000000000000->parseUintM M acc l=.ok (acc*10^l.length+vD l)
 |[],acc,_,_,_=>by simp[parseUintM,vD]
 |c::r,acc,hd,hle,hlt=>by
  have hc:=hd c (by simp);simp only[isD,Bool.and_eq_true,decide_eq_true_eq]at hc;have e:acc*10^(c::r).length+vD (c::r)=(acc*10+(c.toNat-48))*10^r.length+vD r:=by
   have:=qbo [c] r;rw[List.singleton_append]at this;rw[this,List.length_cons,Nat.pow_succ,Nat.add_mul];simp only[vD,List.foldl_cons,List.foldl_nil,Nat.zero_mul,Nat.zero_add];rw[Nat.mul_comm (10^r.length) 10,<- Nat.mul_assoc];omega
  rw[e]at hle hlt ⊢;have hp:1<=10^r.length:=Nat.one_le_pow _ _ (by omega);have h2:=Nat.mul_le_mul_left (acc*10+(c.toNat-48)) hp;rw[parseUintM,if_pos hc,if_neg (by omega),if_neg (by omega)];exact qk6 hM r _ (λx hx=>hd x (by simp[hx])) hle hlt
theorem qk7(c:UInt8):∀l:List UInt8,Lib.indexByte l c=ixB l c
 |[]=>rfl
 |b::l=>by simp only[Lib.indexByte,ixB,qk7 c l]
theorem qqb(s:ByteArray)(w:World)(hs:s.data.toList.length<=1099511627776) :
  Calls Tryz.prog 248 #[.string s,.string (txt dgts)] w λe w'=>e=.returned (.string (txt (q8j s.data.toList dgts)))/\Below w.heap.size w w':=by
 have hs':s.size<=9223372036854775807:=by
                        have:s.size=s.data.toList.length:=by rw[Array.length_toList];rfl
                        omega
 exact Any.strings_Trim_laid Tryz.lTrim (by kernel_rfl) s (txt dgts) w hs' (by decide) (ascii_of_all (by decide))
theorem qqc(k:Nat)(hk:k<=9)(w:World) :
  Calls Tryz.prog 207 #[.string (txt [48]),.int .i64 k] w λe w'=>e=.returned (.string (txt (List.replicate k 48)))/\Below w.heap.size w w':=by
 have h:=Any.strings_Repeat Tryz.lRepeat Tryz.xRepeat (txt [48]) k w (by omega) (by show 1*k<=_;omega);refine h.mono λe w' ⟨he,hB⟩=>⟨?_,hB⟩;rw[he,q7s,qk5];rfl
theorem qqd(w:World)(t:TypeId)(s:ByteArray):Below w.heap.size w (Lib.bytesWorld w t s) :=
 below_freeze ((Below.drew (Below.refl _ w)).alloc (Nat.le_refl _) _) (p:=⟨w.heap.size,_,none⟩) (Nat.le_refl _) 1
theorem parse_in(l:List UInt8)(h0:l≠[])(h9:l.length<=9)(hd:∀c,c∈l->isD c=true)(w:World) :
  Calls Tryz.prog 273 #[.string (txt l),.int .i64 10,.int .i64 32] w λe w'=>e=.returned (.tuple #[.int .u64 (vD l:Int),.nilIface])/\Below w.heap.size w w':=by
 have h:=Any.internal_strconv_ParseUint_10_at32 Tryz.lParse (txt l) (by rw[q1c];omega) w;have hv:=vD_lt hd;have hp:10^l.length<=10^9:=Nat.pow_le_pow_right (by omega) h9;have h10:(10:Nat)^9=1000000000:=rfl;have h32:(2:Nat)^32-1=4294967295:=rfl;have hM:=qk6 (M:=2^32-1) (by decide) l 0 hd (by omega) (by omega);rw[Nat.zero_mul,Nat.zero_add]at hM;have e:parseUintB 32 (txt l).data.toList=.ok (vD l):=by rw[q7s,parseUintB,if_neg h0,hM]
 rw[e]at h;change Calls Tryz.prog 273 _ _ (λe w'=>e=.returned (.tuple #[.int .u64 (vD l:Int),.nilIface])/\(w'=w\/w'=Lib.bytesWorld w (Tryz.lParse_ren.t 5) (txt l)))at h;refine h.mono λe w' ⟨he,hw⟩=>⟨he,?_⟩;rcases hw with rfl | rfl
 ·exact Below.refl _ _
 ·exact qqd _ _ _
theorem qqe(l:List UInt8)(h0:l≠[])(h9:l.length<=9)(hd:∀c,c∈l->isD c=true)(w:World) :
  Calls Tryz.prog 249 #[.string (txt l),.int .i64 10,.int .i64 32] w λe w'=>e=.returned (.tuple #[.int .u64 (vD l:Int),.nilIface])/\Below w.heap.size w w':=by
 have h:=parse_in l h0 h9 hd w;generalize txt l=s at h ⊢
 go_enter Tryz.func249,Tryz.ntmps249
 go_wp2_with (go_at_call 273;refine h.mono ?_;rintro e w' ⟨rfl,hB⟩)
 go_ret2
 exact⟨rfl,hB⟩
theorem pow10_tab{w:World}{S:Nat->Prop}(h:Tabs w S):Lib.TabIs Tryz.prog w "internal/strconv.uint64pow10" .u64 Lib.pow10Tab:=by
 obtain⟨_,e,t,h2⟩:=h 0 _ (List.mem_singleton.2 rfl);unfold Lib.TabIs World.var?;rw[show Tryz.prog.globalNamed "internal/strconv.uint64pow10" = some 0 by kernel_rfl]
 simp only[Option.bind_some,h2];rfl
theorem q6r{w w':World}{S:Nat->Prop}(hS:∀b,S b->b<w.heap.size)(hT:Tabs w S)(hB:Below w.heap.size w w'):Keep ⟨w,S,q2b [],0,λ_=>none⟩ w' S :=
 ⟨hB.size,λb h _=>hB.block b h,hB.os,hB.tape,hB.output,λb h=>Nat.lt_of_lt_of_le (hS b h) hB.size,λb h=>h,λb h=>.inl h,⟨hT,λb hb=>by obtain⟨i,g,sh,h,_⟩:=hb;simp at h⟩⟩
theorem q7t{X:Cx}{w:World}{S:Nat->Prop}:GOk X w S []:=⟨λi g sh h=>by simp at h,λi j g g' s s' h=>by simp at h⟩
theorem trim_ok{E:Env}(hP:E.P=Tryz.prog){L L':List FV}(hL:trimExt L=some L'):Enters E.P 248/\q31 E.P 248 ⟨[.str,.str],[.skip,.skip,.str],[]⟩ L L':=by
 rw[hP];refine⟨⟨Tryz.f248,Tryz.func248,rfl,by kernel_rfl⟩,λw S V G hS hTb hT hgo=>?_⟩;obtain⟨v1,V1,x1,L1,rfl,rfl,hl1,hf1,v2,V2,x2,L2,rfl,rfl,hl2,hf2,rfl,rfl,rfl⟩:=hT;unfold trimExt at hL;split at hL
 ·rename_i s c heq;cases heq;split at hL
  ·rename_i hc;cases hL;cases hf1;cases hf2;have ec:c=txt dgts:=by rw[<- hc.1,qbp]
   subst ec;refine(qqb s w hc.2).mono ?_;rintro e w' ⟨rfl,hB⟩;exact⟨S,[],[.string (txt (q8j s.data.toList dgts))],rfl,⟨_,_,rfl,_,_,rfl,_,[],_,[],rfl,rfl,trivial,.str _,rfl,rfl,rfl⟩,q6r hS hTb hB,q7t⟩
  ·cases hL
 ·cases hL
theorem repeat_ok{E:Env}(hP:E.P=Tryz.prog){L L':List FV}(hL:repeatExt L=some L'):Enters E.P 207/\q31 E.P 207 ⟨[.str,.int .i64],[.skip,.skip,.str],[]⟩ L L':=by
 rw[hP];refine⟨⟨Tryz.f207,Tryz.func207,rfl,by kernel_rfl⟩,λw S V G hS hTb hT hgo=>?_⟩;obtain⟨v1,V1,x1,L1,rfl,rfl,hl1,hf1,v2,V2,x2,L2,rfl,rfl,hl2,hf2,rfl,rfl,rfl⟩:=hT;unfold repeatExt at hL;split at hL
 ·rename_i s k heq;cases heq;split at hL
  ·rename_i hc;cases hL;cases hf1;cases hf2;obtain⟨h1,h2,h3⟩:=hc;have ec:s=txt [48]:=by rw[<- h1,qbp]
   subst ec;obtain⟨m,rfl⟩:∃m:Nat,k=m:=⟨k.toNat,by omega⟩;refine(qqc m (by omega) w).mono ?_;rintro e w' ⟨rfl,hB⟩;exact⟨S,[],[.string (txt (List.replicate m 48))],rfl,⟨_,_,rfl,_,_,rfl,_,[],_,[],rfl,rfl,trivial,.str _,rfl,rfl,rfl⟩,q6r hS hTb hB,q7t⟩
  ·cases hL
 ·cases hL
theorem format_ok{E:Env}(hP:E.P=Tryz.prog){L L':List FV}(hL:formatExt L=some L'):Enters E.P 206/\q31 E.P 206 ⟨[.int .u64,.int .i64],[.skip,.skip,.str],[]⟩ L L':=by
 rw[hP];refine⟨⟨Tryz.f206,Tryz.func206,rfl,by kernel_rfl⟩,λw S V G hS hTb hT hgo=>?_⟩;obtain⟨v1,V1,x1,L1,rfl,rfl,hl1,hf1,v2,V2,x2,L2,rfl,rfl,hl2,hf2,rfl,rfl,rfl⟩:=hT;unfold formatExt at hL;split at hL
 ·rename_i z k heq;cases heq;split at hL
  ·rename_i hc;cases hL;cases hf1;cases hf2;obtain⟨h1,h2,rfl⟩:=hc;obtain⟨m,rfl⟩:∃m:Nat,z=m:=⟨z.toNat,by omega⟩;have h:=qqa m (by omega) w (pow10_tab hTb);rw[qk4]at h;refine h.mono ?_;rintro e w' ⟨rfl,hB⟩;exact⟨S,[],[.string (txt (ql m))],rfl,⟨_,_,rfl,_,_,rfl,_,[],_,[],rfl,rfl,trivial,.str _,rfl,rfl,rfl⟩,q6r hS hTb hB,q7t⟩
  ·cases hL
 ·cases hL
theorem parse_ok{E:Env}(hP:E.P=Tryz.prog){L L':List FV}(hL:parseExt L=some L'):Enters E.P 249/\q31 E.P 249 ⟨[.str,.int .i64,.int .i64],[.skip,.skip,.skip,.int .u64,.raw .nilIface],[]⟩ L L':=by
 rw[hP];refine⟨⟨Tryz.f249,Tryz.func249,rfl,by kernel_rfl⟩,λw S V G hS hTb hT hgo=>?_⟩;obtain⟨v1,V1,x1,L1,rfl,rfl,hl1,hf1,v2,V2,x2,L2,rfl,rfl,hl2,hf2,v3,V3,x3,L3,rfl,rfl,hl3,hf3,rfl,rfl,rfl⟩:=hT;unfold parseExt at hL;split at hL
 ·rename_i s k z heq;cases heq;split at hL
  ·rename_i hc;cases hL;cases hf1;cases hf2;cases hf3;obtain⟨h1,h2,h3,rfl,rfl⟩:=hc;have h:=qqe s.data.toList h1 h2 (List.all_eq_true.1 h3) w;rw[qbp]at h;refine h.mono ?_;rintro e w' ⟨rfl,hB⟩;exact⟨S,[],[.int .u64 (vD s.data.toList:Int),.nilIface],rfl,⟨_,_,rfl,_,_,rfl,_,_,rfl,_,_,_,_,rfl,rfl,rfl,.int _ _,_,[],_,[],rfl,rfl,⟨rfl,rfl⟩,.raw _,rfl,rfl,rfl⟩,q6r hS hTb hB,q7t⟩
  ·cases hL
 ·cases hL
theorem idx_ok{E:Env}(hP:E.P=Tryz.prog){L L':List FV}(hL:idxExt L=some L'):Enters E.P 262/\q31 E.P 262 ⟨[.str,.int .u8],[.skip,.skip,.int .i64],[]⟩ L L':=by
 rw[hP];refine⟨⟨Tryz.f262,Tryz.func262,rfl,by kernel_rfl⟩,λw S V G hS hTb hT hgo=>?_⟩;obtain⟨v1,V1,x1,L1,rfl,rfl,hl1,hf1,v2,V2,x2,L2,rfl,rfl,hl2,hf2,rfl,rfl,rfl⟩:=hT;unfold idxExt at hL;split at hL
 ·rename_i s c heq;cases heq;cases hL;cases hf1;cases hf2;have h:=Any.stringslite_IndexByte Tryz.lIndexByte s c w;rw[qk7]at h;change Calls Tryz.prog 262 _ _ (λe w'=>e=.returned (.int .i64 (ixB s.data.toList c.toNat.toUInt8))/\w'=w)at h;refine h.mono ?_;rintro e w' ⟨rfl,rfl⟩;exact⟨S,[],[.int .i64 (ixB s.data.toList c.toNat.toUInt8)],rfl,⟨_,_,rfl,_,_,rfl,_,[],_,[],rfl,rfl,rfl,.int _ _,rfl,rfl,rfl⟩,q6r hS hTb (Below.refl _ _),q7t⟩
 ·cases hL
end Rf
end
section
namespace Rf
open Go Go.Proofs Go.Shelf Go.RowKit Go.Sort Go.Lib
def jn(ps:List ByteArray)(k:Nat):List UInt8:=((ps.take k).map λs=>s.data.toList).flatten
theorem qg9{ps:List ByteArray}{k:Nat}(h:k<ps.length):jn ps (k+1)=jn ps k++ps[k].data.toList:=by
 unfold jn;rw[List.take_add_one,List.getElem?_eq_getElem h,Option.toList_some,List.map_append,List.flatten_append,List.map_cons,List.map_nil,List.flatten_cons,List.flatten_nil,List.append_nil]
theorem qdx{ps:List ByteArray}{k:Nat}(h:k<ps.length):(jn ps (k+1)).length=(jn ps k).length+ps[k].size:=by
 rw[qg9 h,List.length_append,Array.length_toList];rfl
theorem jn_all(ps:List ByteArray):jn ps ps.length=(ps.map λs=>s.data.toList).flatten:=by unfold jn;rw[List.take_length]
theorem jn_le{ps:List ByteArray}:∀ {m k:Nat},k<=m->m<=ps.length->(jn ps k).length<=(jn ps m).length:=by
 intro m
 induction m with
 |zero =>
      intro k hk _;have:k=0:=by omega
      subst this;exact Nat.le_refl _
 |succ m ih =>
  intro k hk hm;rcases Nat.lt_or_ge k (m+1)with h | h
  ·have:=ih (k:=k) (by omega) (by omega);rw[qdx (by omega)];omega
  ·have:k=m+1:=by omega
   subst this;exact Nat.le_refl _
set_option maxRecDepth 100000 in
set_option maxHeartbeats 4000000 in
theorem join_main(b o c:Nat)(ps:List ByteArray)(w:World)(h2:2<=ps.length)(hcap:ps.length<=c)(hl:ps.length<=1099511627776)(ht:(jn ps ps.length).length<=1099511627776)
  (hc:Aside (∀k x,ps[k]?=some x->∀W:World,Below w.heap.size w W->W.cell? ⟨b,o+k,none⟩=some (.string x))) :
  Calls Tryz.prog 209 #[.slice (some ⟨b,o,none⟩) ps.length c,.string { data:=#[] }] w λe w'=>e=.returned (.string (txt (jn ps ps.length)))/\Below w.heap.size w w':=by
 have hne0:¬ (ps.length:Int)=0:=by omega
 have hne1:¬ (ps.length:Int)=1:=by omega
 go_enter Tryz.func209,Tryz.ntmps209
 go_wp2
 go_loopw [5,41] (λn i W=>Below w.heap.size w W/\∃k:Nat,k<=ps.length/\i=.int .i64 k/\n=.int .i64 ((jn ps k).length:Nat)) (λn i _=>ps.length-(RowKit.intOf i).toNat)
 case atStart=>exact⟨Below.refl _ _,0,Nat.zero_le _,rfl,rfl⟩
 case round =>
  obtain⟨hB,k,hk,rfl,rfl⟩:=hrel;by_cases hlt:k<ps.length
  ·have hcell:=hc.out k ps[k] (List.getElem?_eq_getElem hlt) wr hB;have hi:(k:Int)<(ps.length:Int):=by omega
   have hjl:=qdx hlt;have hjt:=jn_le (ps:=ps) (m:=ps.length) (k:=k+1) (by omega) (Nat.le_refl _);have hsz:ps[k].size<=1099511627776:=by omega
   have hjk:(jn ps k).length<=1099511627776:=by omega
   have HJ:Aside ((jn ps (k+1)).length=(jn ps k).length+ps[k].size):=hjl;have hgt:¬ ((ps[k].size:Int)>9223372036854775807-((jn ps k).length:Int)):=by omega
   clear hjl hjt;generalize ps[k]=x at *
   generalize (jn ps k).length=J at *
   go_wp2
   go_roundw
   case rel=>exact⟨⟨hB.os,hB.tape,hB.output,hB.size,hB.block⟩,k+1,by omega,by go_num,by rw[HJ.out];go_num⟩
   case measure=>simp[RowKit.intOf];omega
  ·have:k=ps.length:=by omega
   subst this;have hi:¬ (ps.length:Int)<(ps.length:Int):=by omega
   obtain⟨N,hN⟩:∃N,(jn ps ps.length).length=N:=⟨_,rfl⟩;rw[hN]at ht;have HN:Aside ((jn ps ps.length).length=N):=hN;rw[hN];clear hN;have b0:Below wr.heap.size wr (wr.alloc (.cells #[.pointer none,.slice none 0 0] 273)):=(Below.refl _ wr).alloc (Nat.le_refl _) _;have cG:=Any.Builder_Grow_fresh { Tryz.lRepeat with } Tryz.xRepeat wr.heap.size wr.heap.size N (wr.alloc (.cells #[.pointer none,.slice none 0 0] 273)) (Nat.le_refl _) (heap_alloc_new wr _) b0.size (by omega);have hB':Aside (Below w.heap.size w wr):=hB;clear hB
   go_wp2_with (go_at_call 238;go_fit cG;rintro e W1 ⟨rfl,h1,b1⟩;refine Hid.out ?_)
   refine Lib.hid ?_;clear cG;have b01:Below wr.heap.size wr W1:=b0.trans b1;have bw1:Below w.heap.size w W1:=hB'.out.trans (b01.mono hB'.out.size);have hz:0<ps.length:=by omega
   have hcell0:=hc.out 0 ps[0] (List.getElem?_eq_getElem hz) W1 bw1;rw[Nat.add_zero]at hcell0;have hj1:(jn ps 1).length=ps[0].size:=by rw[qdx hz];simp[jn]
   have hj1d:jn ps 1=ps[0].data.toList:=by rw[qg9 hz];simp[jn]
   have hj1N:=jn_le (ps:=ps) (m:=ps.length) (k:=1) (by omega) (Nat.le_refl _);rw[HN.out]at hj1N;have cW:=Any.Builder_WriteString_f { Tryz.lRepeat with } Tryz.xRepeat wr.heap.size wr.heap.size [] ps[0] W1 (Lib.IsBuilderF.of (Or.inr h1)) (by simp;omega) b01.size;have HJ1:Aside (jn ps 1=ps[0].data.toList):=hj1d;have HBW1:Aside (Below w.heap.size w W1):=bw1;have HB01:Aside (Below wr.heap.size wr W1):=b01;clear hj1 hj1d hj1N bw1 b0 b1 b01 h1;generalize ps[0]=x at *
   have hpos:(0:Int)<(ps.length:Int):=by omega
   go_wp2_with (go_at_call 239;go_fit cW;rintro e W2 ⟨rfl,h2,b2⟩;refine Hid.out ?_)
   refine Lib.hid ?_;clear cW;have h2':Lib.IsBuilderF 273 5 wr.heap.size wr.heap.size (Lib.byteCells (jn ps 1)) W2:=by
    rw[List.nil_append,Lib.strCells_eq]at h2;rw[HJ1.out];exact Or.inr h2
   have HB02:Aside (Below wr.heap.size wr W2):=HB01.out.trans b2;have HBW2:Aside (Below w.heap.size w W2):=HBW1.out.trans (b2.mono hB'.out.size);clear h2 b2;have hlen1:(1:Int)<=(ps.length:Int):=by omega
   have hc1:¬ c=1:=by omega
   have hc2:¬ 1=c:=by omega
   have hc3:((c:Int)==1)=false:=by rw[beq_eq_false_iff_ne];omega
   go_wp2
   go_loopw [65] (λi W=>Below w.heap.size w W/\Below wr.heap.size wr W/\∃k:Nat,k+1<=ps.length/\i=.int .i64 k/\Lib.IsBuilderF 273 5 wr.heap.size wr.heap.size (Lib.byteCells (jn ps (k+1))) W) (λi _=>ps.length-1-(RowKit.intOf i).toNat)
   case atStart=>exact⟨HBW2.out,HB02.out,0,by omega,rfl,h2'⟩
   case round =>
    obtain⟨hBw,hBr,k,hk1,rfl,hbld⟩:=hrel;have hsize:=hBr.size;by_cases hlt2:k+1<ps.length
    ·have hcell:=hc.out (k+1) ps[k+1] (List.getElem?_eq_getElem hlt2) wr hBw;rw[show o+(k+1)=o+1+k by omega]at hcell;have hi2:(k:Int)<(ps.length:Int)-1:=by omega
     have hjl:=qdx hlt2;have hjs:=qg9 hlt2;have hjN:=jn_le (ps:=ps) (m:=ps.length) (k:=k+1+1) (by omega) (Nat.le_refl _);rw[HN.out]at hjN;have e0:Lib.byteCells (jn ps (k+1))++Lib.strCells { data:=#[] }=Lib.byteCells (jn ps (k+1)):=by simp[Lib.strCells]
     have cW1:=Any.Builder_WriteString_f { Tryz.lRepeat with } Tryz.xRepeat _ _ _ { data:=#[] } wr hbld (by rw[Lib.byteCells_length];show _+0<=_;omega) hsize;rw[e0]at cW1;have cW2:=λ(B:Nat) (W:World) (hb:Lib.IsBuilderF 273 5 B B (Lib.byteCells (jn ps (k+1))) W) (hsz:B<=W.heap.size)=>Any.Builder_WriteString_f { Tryz.lRepeat with } Tryz.xRepeat B B _ ps[k+1] W hb (by rw[Lib.byteCells_length];omega) hsz;simp only[Lib.strCells_eq,<- Lib.byteCells_append,<- hjs]at cW2;have HJL:Aside (k+1<ps.length):=hlt2;have HBw:Aside (Below w.heap.size w wr):=hBw;have hwm:=hB'.out.size;clear hjl hjs hjN e0 hBw;generalize ps[k+1]=y at *
     go_wp2_with (go_at_call 239;go_fit cW1;rintro e W3 ⟨rfl,h3,b3⟩;refine Hid.out ?_)
     refine Lib.hid ?_;have cW3:=cW2 _ W3 (Or.inr h3) (Nat.le_trans hsize b3.size);clear cW1 cW2
     go_wp2_with (go_at_call 239;go_fit cW3;rintro e W4 ⟨rfl,h4,b4⟩;refine Hid.out ?_)
     refine Lib.hid ?_;clear cW3;have hb34:=b3.trans b4
     go_wp2
     go_roundw
     case rel=>exact⟨HBw.out.trans (hb34.mono hwm),hBr.trans hb34,k+1,by have:=HJL.out;omega,by go_num,Or.inr h4⟩
     case measure=>have:=HJL.out;simp[RowKit.intOf];omega
    ·have:k+1=ps.length:=by omega
     have hi2:¬ (k:Int)<(ps.length:Int)-1:=by omega
     rw[this]at hbld;have cStr:=Any.Builder_String_any_f { Tryz.lRepeat with } Tryz.xRepeat _ _ (jn ps ps.length) wr hbld hsize;have hwm:=hB'.out.size
     go_wp2_with (go_at_call 241;go_fit cStr;rintro e W5 ⟨rfl,h5,b5⟩;refine Hid.out ?_)
     refine Lib.hid ?_
     go_wp2
     go_ret
     exact⟨rfl,hBw.trans (b5.mono hwm)⟩
end Rf
end
end
