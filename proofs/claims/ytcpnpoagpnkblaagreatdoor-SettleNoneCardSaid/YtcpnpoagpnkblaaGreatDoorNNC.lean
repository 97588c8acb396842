/- Merged: LibB LibD. -/
import Derived.Ground.NamesProg
import Derived.Shelf.LaysM
import Derived.Shelf.Strings.Search1
import Derived.Shelf.Strconv.Itoa1
import Derived.Shelf.Strconv.Itoa2
import Derived.Test.YtcpnpoagpnkblaaGreatDoorProg
import Derived.Lib.Walk
import Derived.Lib.ItoaMem
import Derived.Lib.AppendIntMem
import Derived.WalkKit
import Derived.BigCall
import Derived.BigGuard
import Derived.Shelf.Strings.SlTrimAscii
import Derived.Shelf.Strings.Repeat
import Derived.Shelf.Strconv.ParseUint10At
import Derived.Test.YtcpnpoagpnkblaaGreatDoorNMG
import Derived.LoopTactic
import Derived.Deep.LoopGhost
import Derived.Lib.SliceRun
set_option linter.unusedVariables false
set_option linter.unusedSimpArgs false
section
section
/- The library's contracts of the shelf, laid at this program. -/
namespace Go.Proofs
open Go.Shelf
def Tryz.lIndexByte_ren:Go.Shelf.Ren:=⟨fun | 217=>262 | 266=>279 | n=>n,fun | 9=>9 | 5=>5 | 3=>3 | n=>n,fun | n=>n⟩
theorem Tryz.lIndexByte:Go.Proofs.Lays.n217 Tryz.prog Tryz.lIndexByte_ren:={
  mixed:=by kernel_rfl
  f217:=Tryz.func262.trans (congrArg some (by kernel_rfl))
  f266:=Tryz.func279.trans (congrArg some (by kernel_rfl))
  t3:=Tryz.underlying3
  a3:=Tryz.isAgg3
  z3:=Tryz.sizeOf3
  v3:=Tryz.zeroValue3
  t5:=Tryz.underlying5
  a5:=Tryz.isAgg5
  z5:=Tryz.sizeOf5
  v5:=Tryz.zeroValue5
  t9:=Tryz.underlying9
  a9:=Tryz.isAgg9
  z9:=Tryz.sizeOf9
  v9:=Tryz.zeroValue9 }
def Tryz.lSmall_ren:Go.Shelf.Ren:=⟨fun | 283=>242 | n=>n,fun | 3=>3 | 9=>9 | 4=>4 | n=>n,fun | n=>n⟩
theorem Tryz.lSmall:Go.Proofs.Lays.n283 Tryz.prog Tryz.lSmall_ren:={
  mixed:=by kernel_rfl
  f283:=Tryz.func242.trans (congrArg some (by kernel_rfl))
  t3:=Tryz.underlying3
  a3:=Tryz.isAgg3
  z3:=Tryz.sizeOf3
  v3:=Tryz.zeroValue3
  t4:=Tryz.underlying4
  a4:=Tryz.isAgg4
  z4:=Tryz.sizeOf4
  v4:=Tryz.zeroValue4
  t9:=Tryz.underlying9
  a9:=Tryz.isAgg9
  z9:=Tryz.sizeOf9
  v9:=Tryz.zeroValue9 }
def Tryz.lDigits_ren:Go.Shelf.Ren:=⟨fun | 284=>243 | 129=>197 | 317=>258 | 318=>259 | n=>n,fun | 53=>153 | 3=>3 | 212=>295 | 0=>0 | 4=>4 | 46=>182 | 5=>5 | 9=>9 | n=>n,fun | 17=>0 | n=>n⟩
theorem Tryz.lDigits:Go.Proofs.LaysM.n284 Tryz.prog Tryz.lDigits_ren:={
  mixed:=by kernel_rfl
  f129:=Tryz.func197.trans (congrArg some (by kernel_rfl))
  f284:=Tryz.func243.trans (congrArg some (by kernel_rfl))
  f317:=Tryz.func258.trans (congrArg some (by kernel_rfl))
  f318:=Tryz.func259.trans (congrArg some (by kernel_rfl))
  t0:=Tryz.underlying0
  a0:=Tryz.isAgg0
  z0:=Tryz.sizeOf0
  v0:=Tryz.zeroValue0
  t3:=Tryz.underlying3
  a3:=Tryz.isAgg3
  z3:=Tryz.sizeOf3
  v3:=Tryz.zeroValue3
  t4:=Tryz.underlying4
  a4:=Tryz.isAgg4
  z4:=Tryz.sizeOf4
  v4:=Tryz.zeroValue4
  t5:=Tryz.underlying5
  a5:=Tryz.isAgg5
  z5:=Tryz.sizeOf5
  v5:=Tryz.zeroValue5
  t9:=Tryz.underlying9
  a9:=Tryz.isAgg9
  z9:=Tryz.sizeOf9
  v9:=Tryz.zeroValue9
  t46:=Tryz.underlying182
  a46:=Tryz.isAgg182
  z46:=Tryz.sizeOf182
  v46:=Tryz.zeroValue182
  t53:=Tryz.underlying153
  a53:=Tryz.isAgg153
  z53:=Tryz.sizeOf153
  v53:=Tryz.zeroValue153
  t212:=Tryz.underlying295
  a212:=Tryz.isAgg295
  z212:=Tryz.sizeOf295
  v212:=Tryz.zeroValue295
  g17:=by kernel_rfl
  i0:=by kernel_rfl
  i3:=by kernel_rfl
  i4:=by kernel_rfl
  i5:=by kernel_rfl
  i9:=by kernel_rfl
  i46:=by kernel_rfl
  i53:=by kernel_rfl
  i212:=by kernel_rfl
  m17:=by kernel_rfl }
def Tryz.lBase10_ren:Go.Shelf.Ren:=⟨fun | 285=>244 | n=>n,fun | 37=>200 | 53=>153 | 3=>3 | 4=>4 | 51=>231 | 9=>9 | 5=>5 | 0=>0 | n=>n,fun | n=>n⟩
theorem Tryz.lBase10:Go.Proofs.Lays.n285 Tryz.prog Tryz.lBase10_ren:={
  mixed:=by kernel_rfl
  f285:=Tryz.func244.trans (congrArg some (by kernel_rfl))
  t0:=Tryz.underlying0
  a0:=Tryz.isAgg0
  z0:=Tryz.sizeOf0
  v0:=Tryz.zeroValue0
  t3:=Tryz.underlying3
  a3:=Tryz.isAgg3
  z3:=Tryz.sizeOf3
  v3:=Tryz.zeroValue3
  t4:=Tryz.underlying4
  a4:=Tryz.isAgg4
  z4:=Tryz.sizeOf4
  v4:=Tryz.zeroValue4
  t5:=Tryz.underlying5
  a5:=Tryz.isAgg5
  z5:=Tryz.sizeOf5
  v5:=Tryz.zeroValue5
  t9:=Tryz.underlying9
  a9:=Tryz.isAgg9
  z9:=Tryz.sizeOf9
  v9:=Tryz.zeroValue9
  t37:=Tryz.underlying200
  a37:=Tryz.isAgg200
  z37:=Tryz.sizeOf200
  v37:=Tryz.zeroValue200
  t51:=Tryz.underlying231
  a51:=Tryz.isAgg231
  z51:=Tryz.sizeOf231
  v51:=Tryz.zeroValue231
  t53:=Tryz.underlying153
  a53:=Tryz.isAgg153
  z53:=Tryz.sizeOf153
  v53:=Tryz.zeroValue153 }
end Go.Proofs
end
section
namespace Rf
open Go Go.Proofs Go.Shelf Go.RowKit Go.Sort Go.Lib
theorem below_gd(w:World)(q:Nat)(os:Array Obj):Below w.heap.size w (grow (w.drewN q) os):=by
 refine⟨rfl,rfl,rfl,?_,λb hb=>?_⟩
 ·show w.heap.size<=(w.heap++os).size;simp
 ·show(w.heap++os)[b]?=w.heap[b]?;rw[Array.getElem?_append_left hb]
theorem fin0(w:World)(o:Obj)(dk:Array UInt8)(k:Nat):∃os,(putRow (λ(b:UInt8)=>Value.int .u8 (b.toNat:Int)) (w.alloc o) w.heap.size 0 dk).drewN k=grow (w.drewN k) os:=by
 rw[alloc_eq_grow];obtain⟨os',_,e⟩:=putRow_grow_new (λ(b:UInt8)=>Value.int .u8 (b.toNat:Int)) w #[o] w.heap.size 0 dk (Nat.le_refl _);exact⟨os',by rw[e];rfl⟩
set_option maxHeartbeats 6400000 in
set_option maxRecDepth 100000 in
theorem formatIn (u:Nat) (hu64:u<18446744073709551616) (w:World) (htab:Lib.TabIs Tryz.prog w "internal/strconv.uint64pow10" .u64 Lib.pow10Tab) :
  Calls Tryz.prog 235 #[.int .u64 u,.int .i64 10] w λe w'=>e=.returned (.string ⟨(Lib.decDigits u).toArray⟩)/\Below w.heap.size w w':=by
 by_cases hs:u<100
 ·go_enter Tryz.func235,Tryz.ntmps235
  go_wp2_with (go_at_call 242;refine(Any.internal_strconv_small Tryz.lSmall u hs _).mono ?_;rintro e w' ⟨rfl,rfl⟩)
  go_ret
  exact⟨rfl,Below.refl _ _⟩
 ·have hu1:1<=u:=by omega
  have hnd20:Lib.nDigits u<=20:=by have:=Lib.numDigits_eq u hu1 hu64;split at this <;> omega
  have hal:Tryz.prog.arrayLen 279=24:=by kernel_rfl
  have hsl1:∀W,(Instr.sliceAt 279 (.pointer (some ⟨w.heap.size,0,none⟩)) none (some (.int .i64 (Lib.nDigits u:Int))) none).run Tryz.prog W=.ok (.slice (some ⟨w.heap.size,0,none⟩) (Lib.nDigits u) 24) W:=λW=>by
   rw[run_sliceAt_array_h W 279 ⟨w.heap.size,0,none⟩ (by kernel_rfl) .i64 (Lib.nDigits u:Int) (by omega) (by rw[hal];omega)];rw[hal,show Tryz.prog.elem 279=5 by kernel_rfl];have z5:(Go.sizeOf 5).run Tryz.prog W=.ok 1 W:=Tryz.lBase10.z5 W;rw[z5];simp[Result.andThen,slicedAt,Lib.add_plain]
  have hH0:=Lib.holds_zero0 w 279 (Lib.nDigits u) (by omega);have hfmt:=Any.internal_strconv_formatBase10 Tryz.lBase10 w.heap.size 0 24 u (Array.replicate (Lib.nDigits u) 0) (w.alloc (.cells Lib.zeros24 279)) hH0 (by rw[Array.size_replicate];exact Lib.lt_pow_nDigits u) hu64 (by rw[Array.size_replicate];omega);rw[Array.size_replicate]at hfmt;have HH0:=Lib.hid hH0;clear hH0 hal
  go_enter Tryz.func235,Tryz.ntmps235
  go_wp2_with (first
   |(go_at_call 243;refine(Any.internal_strconv_numDigits Tryz.lDigits u hu1 hu64 _ (Lib.tabIs_alloc htab _)).mono ?_;rintro e w' ⟨rfl,rfl⟩))
  go_at_call 244
  refine hfmt.mono ?_;rintro e w' ⟨rfl,k,v',dk,rfl,hF⟩;have hcv:(convert 200 9 (.slice (some ⟨w.heap.size,0,none⟩) (Lib.nDigits u) 24)).run Tryz.prog ((putRow (λ(b:UInt8)=>Value.int .u8 (b.toNat:Int)) (w.alloc (.cells Lib.zeros24 279)) w.heap.size 0 dk).drewN k)=.ok (.string ⟨(Lib.decDigits u).toArray⟩) ((putRow (λ(b:UInt8)=>Value.int .u8 (b.toNat:Int)) (w.alloc (.cells Lib.zeros24 279)) w.heap.size 0 dk).drewN k):=by
   have h:=run_convert_bytes_back (P:=Tryz.prog) ((putRow (λ(b:UInt8)=>Value.int .u8 (b.toNat:Int)) (w.alloc (.cells Lib.zeros24 279)) w.heap.size 0 dk).drewN k) 200 9 5 ⟨w.heap.size,0,none⟩ 24 (Lib.decDigits u) (by kernel_rfl) (by kernel_rfl) (by kernel_rfl) (λj hj=>by
    rw[Lib.row_is_numeral hF j hj,Lib.add_plain,World.cell?_drewN]
    exact cell?_putRow (λ(b:UInt8)=>Value.int .u8 (b.toNat:Int)) _ w.heap.size 0 _ dk HH0.out (by rw[hF.size,Array.size_replicate]) j (by rw[hF.size];rw[Lib.decDigits_length]at hj;exact hj))
   rw[Lib.decDigits_length]at h;exact h
  go_wp2
  go_ret
  obtain⟨os,eo⟩:=fin0 w (.cells Lib.zeros24 279) dk k;exact⟨rfl,by rw[eo];exact below_gd w k os⟩
theorem qp3 (u:Nat) (hu64:u<18446744073709551616) (w:World) (htab:Lib.TabIs Tryz.prog w "internal/strconv.uint64pow10" .u64 Lib.pow10Tab) :
  Calls Tryz.prog 206 #[.int .u64 u,.int .i64 10] w λe w'=>e=.returned (.string ⟨(Lib.decDigits u).toArray⟩)/\Below w.heap.size w w':=by
 go_enter Tryz.func206,Tryz.ntmps206
 go_wp2_with (go_at_call 235;refine(formatIn u hu64 _ htab).mono ?_;rintro e w' ⟨rfl,hB⟩)
 go_ret
 exact⟨rfl,hB⟩
end Rf
end
section
namespace Go.Proofs
open Go.Shelf
def Tryz.lTrim_ren:Go.Shelf.Ren:=⟨fun | 160=>248 | 232=>267 | 231=>266 | 227=>268 | 234=>270 | 233=>269 | 236=>272 | 235=>271 | 228=>281 | 271=>284 | 151=>283 | 197=>282 | 120=>293 | 152=>292 | 260=>291 | 137=>296 | 119=>297 | 224=>264 | 225=>263 | 217=>262 | 266=>279 | n=>n,fun | 9=>9 | 4=>4 | 3=>3 | 5=>5 | 117=>301 | 116=>300 | 0=>0 | 124=>304 | 21=>21 | 105=>311 | 46=>182 | 119=>326 | 139=>329 | 138=>328 | n=>n,fun | 3=>6 | 4=>7 | n=>n⟩
theorem Tryz.lTrim:Go.Proofs.Lays.n160 Tryz.prog Tryz.lTrim_ren:={
  mixed:=by kernel_rfl
  f119:=Tryz.func297.trans (congrArg some (by kernel_rfl))
  f120:=Tryz.func293.trans (congrArg some (by kernel_rfl))
  f137:=Tryz.func296.trans (congrArg some (by kernel_rfl))
  f151:=Tryz.func283.trans (congrArg some (by kernel_rfl))
  f152:=Tryz.func292.trans (congrArg some (by kernel_rfl))
  f160:=Tryz.func248.trans (congrArg some (by kernel_rfl))
  f197:=Tryz.func282.trans (congrArg some (by kernel_rfl))
  f217:=Tryz.func262.trans (congrArg some (by kernel_rfl))
  f224:=Tryz.func264.trans (congrArg some (by kernel_rfl))
  f225:=Tryz.func263.trans (congrArg some (by kernel_rfl))
  f227:=Tryz.func268.trans (congrArg some (by kernel_rfl))
  f228:=Tryz.func281.trans (congrArg some (by kernel_rfl))
  f231:=Tryz.func266.trans (congrArg some (by kernel_rfl))
  f232:=Tryz.func267.trans (congrArg some (by kernel_rfl))
  f233:=Tryz.func269.trans (congrArg some (by kernel_rfl))
  f234:=Tryz.func270.trans (congrArg some (by kernel_rfl))
  f235:=Tryz.func271.trans (congrArg some (by kernel_rfl))
  f236:=Tryz.func272.trans (congrArg some (by kernel_rfl))
  f260:=Tryz.func291.trans (congrArg some (by kernel_rfl))
  f266:=Tryz.func279.trans (congrArg some (by kernel_rfl))
  f271:=Tryz.func284.trans (congrArg some (by kernel_rfl))
  t0:=Tryz.underlying0
  a0:=Tryz.isAgg0
  z0:=Tryz.sizeOf0
  v0:=Tryz.zeroValue0
  t3:=Tryz.underlying3
  a3:=Tryz.isAgg3
  z3:=Tryz.sizeOf3
  v3:=Tryz.zeroValue3
  t4:=Tryz.underlying4
  a4:=Tryz.isAgg4
  z4:=Tryz.sizeOf4
  v4:=Tryz.zeroValue4
  t5:=Tryz.underlying5
  a5:=Tryz.isAgg5
  z5:=Tryz.sizeOf5
  v5:=Tryz.zeroValue5
  t9:=Tryz.underlying9
  a9:=Tryz.isAgg9
  z9:=Tryz.sizeOf9
  v9:=Tryz.zeroValue9
  t21:=Tryz.underlying21
  a21:=Tryz.isAgg21
  z21:=Tryz.sizeOf21
  v21:=Tryz.zeroValue21
  t46:=Tryz.underlying182
  a46:=Tryz.isAgg182
  z46:=Tryz.sizeOf182
  v46:=Tryz.zeroValue182
  t105:=Tryz.underlying311
  a105:=Tryz.isAgg311
  z105:=Tryz.sizeOf311
  v105:=Tryz.zeroValue311
  t116:=Tryz.underlying300
  a116:=Tryz.isAgg300
  z116:=Tryz.sizeOf300
  t117:=Tryz.underlying301
  a117:=Tryz.isAgg301
  z117:=Tryz.sizeOf301
  v117:=Tryz.zeroValue301
  t119:=Tryz.underlying326
  a119:=Tryz.isAgg326
  z119:=Tryz.sizeOf326
  t124:=Tryz.underlying304
  a124:=Tryz.isAgg304
  z124:=Tryz.sizeOf304
  v124:=Tryz.zeroValue304
  t138:=Tryz.underlying328
  a138:=Tryz.isAgg328
  z138:=Tryz.sizeOf328
  v138:=Tryz.zeroValue328
  t139:=Tryz.underlying329
  a139:=Tryz.isAgg329
  z139:=Tryz.sizeOf329
  v139:=Tryz.zeroValue329
  g3:=by kernel_rfl
  g4:=by kernel_rfl }
def Tryz.lRepeat_ren:Go.Shelf.Ren:=⟨fun | 105=>207 | 212=>236 | 99=>237 | 165=>238 | 166=>239 | 170=>240 | 169=>241 | 263=>253 | 264=>254 | 206=>255 | 240=>256 | 241=>257 | 276=>275 | 277=>276 | n=>n,fun | 9=>9 | 3=>3 | 4=>4 | 20=>20 | 0=>0 | 46=>182 | 109=>269 | 5=>5 | 72=>273 | 76=>277 | 51=>231 | 146=>266 | 53=>153 | 148=>291 | 70=>271 | 37=>200 | 75=>276 | 127=>293 | 164=>306 | 80=>38 | n=>n,fun | n=>n⟩
theorem Tryz.lRepeat:Go.Proofs.Lays.n105 Tryz.prog Tryz.lRepeat_ren:={
  mixed:=by kernel_rfl
  f99:=Tryz.func237.trans (congrArg some (by kernel_rfl))
  f105:=Tryz.func207.trans (congrArg some (by kernel_rfl))
  f165:=Tryz.func238.trans (congrArg some (by kernel_rfl))
  f166:=Tryz.func239.trans (congrArg some (by kernel_rfl))
  f169:=Tryz.func241.trans (congrArg some (by kernel_rfl))
  f170:=Tryz.func240.trans (congrArg some (by kernel_rfl))
  f206:=Tryz.func255.trans (congrArg some (by kernel_rfl))
  f212:=Tryz.func236.trans (congrArg some (by kernel_rfl))
  f240:=Tryz.func256.trans (congrArg some (by kernel_rfl))
  f241:=Tryz.func257.trans (congrArg some (by kernel_rfl))
  f263:=Tryz.func253.trans (congrArg some (by kernel_rfl))
  f264:=Tryz.func254.trans (congrArg some (by kernel_rfl))
  f276:=Tryz.func275.trans (congrArg some (by kernel_rfl))
  f277:=Tryz.func276.trans (congrArg some (by kernel_rfl))
  t0:=Tryz.underlying0
  a0:=Tryz.isAgg0
  z0:=Tryz.sizeOf0
  v0:=Tryz.zeroValue0
  t3:=Tryz.underlying3
  a3:=Tryz.isAgg3
  z3:=Tryz.sizeOf3
  v3:=Tryz.zeroValue3
  t4:=Tryz.underlying4
  a4:=Tryz.isAgg4
  z4:=Tryz.sizeOf4
  v4:=Tryz.zeroValue4
  t5:=Tryz.underlying5
  a5:=Tryz.isAgg5
  z5:=Tryz.sizeOf5
  v5:=Tryz.zeroValue5
  t9:=Tryz.underlying9
  a9:=Tryz.isAgg9
  z9:=Tryz.sizeOf9
  v9:=Tryz.zeroValue9
  t20:=Tryz.underlying20
  a20:=Tryz.isAgg20
  z20:=Tryz.sizeOf20
  v20:=Tryz.zeroValue20
  t37:=Tryz.underlying200
  a37:=Tryz.isAgg200
  z37:=Tryz.sizeOf200
  v37:=Tryz.zeroValue200
  t46:=Tryz.underlying182
  a46:=Tryz.isAgg182
  z46:=Tryz.sizeOf182
  v46:=Tryz.zeroValue182
  t51:=Tryz.underlying231
  a51:=Tryz.isAgg231
  z51:=Tryz.sizeOf231
  v51:=Tryz.zeroValue231
  t53:=Tryz.underlying153
  a53:=Tryz.isAgg153
  z53:=Tryz.sizeOf153
  v53:=Tryz.zeroValue153
  t70:=Tryz.underlying271
  a70:=Tryz.isAgg271
  z70:=Tryz.sizeOf271
  v70:=Tryz.zeroValue271
  t72:=Tryz.underlying273
  a72:=Tryz.isAgg273
  z72:=Tryz.sizeOf273
  v72:=Tryz.zeroValue273
  t75:=Tryz.underlying276
  a75:=Tryz.isAgg276
  z75:=Tryz.sizeOf276
  v75:=Tryz.zeroValue276
  t76:=Tryz.underlying277
  a76:=Tryz.isAgg277
  z76:=Tryz.sizeOf277
  v76:=Tryz.zeroValue277
  t109:=Tryz.underlying269
  a109:=Tryz.isAgg269
  z109:=Tryz.sizeOf269
  v109:=Tryz.zeroValue269
  t127:=Tryz.underlying293
  a127:=Tryz.isAgg293
  z127:=Tryz.sizeOf293
  v127:=Tryz.zeroValue293
  t146:=Tryz.underlying266
  a146:=Tryz.isAgg266
  z146:=Tryz.sizeOf266
  v146:=Tryz.zeroValue266
  t148:=Tryz.underlying291
  a148:=Tryz.isAgg291
  z148:=Tryz.sizeOf291
  v148:=Tryz.zeroValue291
  t164:=Tryz.underlying306
  a164:=Tryz.isAgg306
  z164:=Tryz.sizeOf306
  v164:=Tryz.zeroValue306 }
def Tryz.lParse_ren:Go.Shelf.Ren:=⟨fun | 287=>273 | 321=>285 | 322=>286 | n=>n,fun | 9=>9 | 3=>3 | 53=>153 | 75=>276 | 4=>4 | 167=>314 | 5=>5 | 46=>182 | 37=>200 | 0=>0 | 21=>21 | 80=>38 | n=>n,fun | n=>n⟩
theorem Tryz.lParse:Go.Proofs.Lays.n287 Tryz.prog Tryz.lParse_ren:={
  mixed:=by kernel_rfl
  f287:=Tryz.func273.trans (congrArg some (by kernel_rfl))
  f321:=Tryz.func285.trans (congrArg some (by kernel_rfl))
  f322:=Tryz.func286.trans (congrArg some (by kernel_rfl))
  t0:=Tryz.underlying0
  a0:=Tryz.isAgg0
  z0:=Tryz.sizeOf0
  v0:=Tryz.zeroValue0
  t3:=Tryz.underlying3
  a3:=Tryz.isAgg3
  z3:=Tryz.sizeOf3
  v3:=Tryz.zeroValue3
  t4:=Tryz.underlying4
  a4:=Tryz.isAgg4
  z4:=Tryz.sizeOf4
  v4:=Tryz.zeroValue4
  t5:=Tryz.underlying5
  a5:=Tryz.isAgg5
  z5:=Tryz.sizeOf5
  v5:=Tryz.zeroValue5
  t9:=Tryz.underlying9
  a9:=Tryz.isAgg9
  z9:=Tryz.sizeOf9
  v9:=Tryz.zeroValue9
  t21:=Tryz.underlying21
  a21:=Tryz.isAgg21
  z21:=Tryz.sizeOf21
  v21:=Tryz.zeroValue21
  t37:=Tryz.underlying200
  a37:=Tryz.isAgg200
  z37:=Tryz.sizeOf200
  v37:=Tryz.zeroValue200
  t46:=Tryz.underlying182
  a46:=Tryz.isAgg182
  z46:=Tryz.sizeOf182
  v46:=Tryz.zeroValue182
  t53:=Tryz.underlying153
  a53:=Tryz.isAgg153
  z53:=Tryz.sizeOf153
  v53:=Tryz.zeroValue153
  t75:=Tryz.underlying276
  a75:=Tryz.isAgg276
  z75:=Tryz.sizeOf276
  v75:=Tryz.zeroValue276
  t167:=Tryz.underlying314
  a167:=Tryz.isAgg314
  z167:=Tryz.sizeOf314
  v167:=Tryz.zeroValue314 }
theorem Tryz.xRepeat:Builder.Extra Tryz.prog Tryz.lRepeat_ren where
 sizeBuilder:=by kernel_rfl
 liesBuilder:=by kernel_rfl
 t5:=Tryz.lRepeat.t5
 a5:=Tryz.lRepeat.a5
 z5:=Tryz.lRepeat.z5
 v5:=Tryz.lRepeat.v5
 infoByte:=by kernel_rfl
 cellsByte:=by kernel_rfl
 sizeByte:=by kernel_rfl
 neB5:=by decide
end Go.Proofs
namespace Rf
open Go Go.Proofs Go.Shelf Go.RowKit Go.Sort Go.Lib
theorem qj6:∀(n:Nat),decDigits n=qk n:=by
 have key:∀n,n≠0->decDigits n=((Rf.dg 10 n).reverse).map chD:=by
  intro n
  induction n using Nat.strongRecOn with
  |_ n ih =>
   intro h0;rw[decDigits,q3c (by omega) h0];by_cases h:n<10
   ·rw[dif_pos h,Nat.div_eq_of_lt h,q17,Nat.mod_eq_of_lt h];rfl
   ·rw[dif_neg h,ih (n / 10) (by omega) (by omega),List.reverse_cons,List.map_append];rfl
 intro n;unfold qk;by_cases h:n=0
 ·subst h;rw[if_pos rfl,decDigits];rfl
 ·rw[if_neg h,key n h]
theorem qj7(c:UInt8):∀k,repeatL [c] k=List.replicate k c
 |0=>rfl
 |k+1=>by rw[repeatL,qj7 c k,List.replicate_succ];rfl
theorem qj8{M:Nat}(hM:M<18446744073709551616):∀(l:List UInt8) (acc:Nat),(∀c,c∈l->isD c=true)->acc*10^l.length+vD l<=M->acc*10^l.length+vD l<1000000000000->parseUintM M acc l=.ok (acc*10^l.length+vD l)
 |[],acc,_,_,_=>by simp[parseUintM,vD]
 |c::r,acc,hd,hle,hlt=>by
  have hc:=hd c (by simp);simp only[isD,Bool.and_eq_true,decide_eq_true_eq]at hc;have e:acc*10^(c::r).length+vD (c::r)=(acc*10+(c.toNat-48))*10^r.length+vD r:=by
   have:=qbc [c] r;rw[List.singleton_append]at this;rw[this,List.length_cons,Nat.pow_succ,Nat.add_mul];simp only[vD,List.foldl_cons,List.foldl_nil,Nat.zero_mul,Nat.zero_add];rw[Nat.mul_comm (10^r.length) 10,<- Nat.mul_assoc];omega
  rw[e]at hle hlt ⊢;have hp:1<=10^r.length:=Nat.one_le_pow _ _ (by omega);have h2:=Nat.mul_le_mul_left (acc*10+(c.toNat-48)) hp;rw[parseUintM,if_pos hc,if_neg (by omega),if_neg (by omega)];exact qj8 hM r _ (λx hx=>hd x (by simp[hx])) hle hlt
theorem qj9(c:UInt8):∀l:List UInt8,Lib.indexByte l c=ixB l c
 |[]=>rfl
 |b::l=>by simp only[Lib.indexByte,ixB,qj9 c l]
theorem qp4(s:ByteArray)(w:World)(hs:s.data.toList.length<=1099511627776) :
  Calls Tryz.prog 248 #[.string s,.string (txt dgts)] w λe w'=>e=.returned (.string (txt (q8b s.data.toList dgts)))/\Below w.heap.size w w':=by
 have hs':s.size<=9223372036854775807:=by
                        have:s.size=s.data.toList.length:=by rw[Array.length_toList];rfl
                        omega
 exact Any.strings_Trim_laid Tryz.lTrim (by kernel_rfl) s (txt dgts) w hs' (by decide) (ascii_of_all (by decide))
theorem qp5(k:Nat)(hk:k<=9)(w:World) :
  Calls Tryz.prog 207 #[.string (txt [48]),.int .i64 k] w λe w'=>e=.returned (.string (txt (List.replicate k 48)))/\Below w.heap.size w w':=by
 have h:=Any.strings_Repeat Tryz.lRepeat Tryz.xRepeat (txt [48]) k w (by omega) (by show 1*k<=_;omega);refine h.mono λe w' ⟨he,hB⟩=>⟨?_,hB⟩;rw[he,q7k,qj7];rfl
theorem qp6(w:World)(t:TypeId)(s:ByteArray):Below w.heap.size w (Lib.bytesWorld w t s) :=
 below_freeze ((Below.drew (Below.refl _ w)).alloc (Nat.le_refl _) _) (p:=⟨w.heap.size,_,none⟩) (Nat.le_refl _) 1
theorem parse_in(l:List UInt8)(h0:l≠[])(h9:l.length<=9)(hd:∀c,c∈l->isD c=true)(w:World) :
  Calls Tryz.prog 273 #[.string (txt l),.int .i64 10,.int .i64 32] w λe w'=>e=.returned (.tuple #[.int .u64 (vD l:Int),.nilIface])/\Below w.heap.size w w':=by
 have h:=Any.internal_strconv_ParseUint_10_at32 Tryz.lParse (txt l) (by rw[q1g];omega) w;have hv:=vD_lt hd;have hp:10^l.length<=10^9:=Nat.pow_le_pow_right (by omega) h9;have h10:(10:Nat)^9=1000000000:=rfl;have h32:(2:Nat)^32-1=4294967295:=rfl;have hM:=qj8 (M:=2^32-1) (by decide) l 0 hd (by omega) (by omega);rw[Nat.zero_mul,Nat.zero_add]at hM;have e:parseUintB 32 (txt l).data.toList=.ok (vD l):=by rw[q7k,parseUintB,if_neg h0,hM]
 rw[e]at h;change Calls Tryz.prog 273 _ _ (λe w'=>e=.returned (.tuple #[.int .u64 (vD l:Int),.nilIface])/\(w'=w\/w'=Lib.bytesWorld w (Tryz.lParse_ren.t 5) (txt l)))at h;refine h.mono λe w' ⟨he,hw⟩=>⟨he,?_⟩;rcases hw with rfl | rfl
 ·exact Below.refl _ _
 ·exact qp6 _ _ _
theorem qp7(l:List UInt8)(h0:l≠[])(h9:l.length<=9)(hd:∀c,c∈l->isD c=true)(w:World) :
  Calls Tryz.prog 249 #[.string (txt l),.int .i64 10,.int .i64 32] w λe w'=>e=.returned (.tuple #[.int .u64 (vD l:Int),.nilIface])/\Below w.heap.size w w':=by
 have h:=parse_in l h0 h9 hd w;generalize txt l=s at h ⊢
 go_enter Tryz.func249,Tryz.ntmps249
 go_wp2_with (go_at_call 273;refine h.mono ?_;rintro e w' ⟨rfl,hB⟩)
 go_ret2
 exact⟨rfl,hB⟩
theorem pow10_tab{w:World}{S:Nat->Prop}(h:Tabs w S):Lib.TabIs Tryz.prog w "internal/strconv.uint64pow10" .u64 Lib.pow10Tab:=by
 obtain⟨_,e,t,h2⟩:=h 0 _ (List.mem_singleton.2 rfl);unfold Lib.TabIs World.var?;rw[show Tryz.prog.globalNamed "internal/strconv.uint64pow10" = some 0 by kernel_rfl]
 simp only[Option.bind_some,h2];rfl
theorem q6f{w w':World}{S:Nat->Prop}(hS:∀b,S b->b<w.heap.size)(hT:Tabs w S)(hB:Below w.heap.size w w'):Keep ⟨w,S,q27 [],0,λ_=>none⟩ w' S :=
 ⟨hB.size,λb h _=>hB.block b h,hB.os,hB.tape,hB.output,λb h=>Nat.lt_of_lt_of_le (hS b h) hB.size,λb h=>h,λb h=>.inl h,⟨hT,λb hb=>by obtain⟨i,g,sh,h,_⟩:=hb;simp at h⟩⟩
theorem q7l{X:Cx}{w:World}{S:Nat->Prop}:GOk X w S []:=⟨λi g sh h=>by simp at h,λi j g g' s s' h=>by simp at h⟩
theorem trim_ok{E:Env}(hP:E.P=Tryz.prog){L L':List FV}(hL:trimExt L=some L'):Enters E.P 248/\q2w E.P 248 ⟨[.str,.str],[.skip,.skip,.str],[]⟩ L L':=by
 rw[hP];refine⟨⟨Tryz.f248,Tryz.func248,rfl,by kernel_rfl⟩,λw S V G hS hTb hT hgo=>?_⟩;obtain⟨v1,V1,x1,L1,rfl,rfl,hl1,hf1,v2,V2,x2,L2,rfl,rfl,hl2,hf2,rfl,rfl,rfl⟩:=hT;unfold trimExt at hL;split at hL
 ·rename_i s c heq;cases heq;split at hL
  ·rename_i hc;cases hL;cases hf1;cases hf2;have ec:c=txt dgts:=by rw[<- hc.1,qbd]
   subst ec;refine(qp4 s w hc.2).mono ?_;rintro e w' ⟨rfl,hB⟩;exact⟨S,[],[.string (txt (q8b s.data.toList dgts))],rfl,⟨_,_,rfl,_,_,rfl,_,[],_,[],rfl,rfl,trivial,.str _,rfl,rfl,rfl⟩,q6f hS hTb hB,q7l⟩
  ·cases hL
 ·cases hL
theorem repeat_ok{E:Env}(hP:E.P=Tryz.prog){L L':List FV}(hL:repeatExt L=some L'):Enters E.P 207/\q2w E.P 207 ⟨[.str,.int .i64],[.skip,.skip,.str],[]⟩ L L':=by
 rw[hP];refine⟨⟨Tryz.f207,Tryz.func207,rfl,by kernel_rfl⟩,λw S V G hS hTb hT hgo=>?_⟩;obtain⟨v1,V1,x1,L1,rfl,rfl,hl1,hf1,v2,V2,x2,L2,rfl,rfl,hl2,hf2,rfl,rfl,rfl⟩:=hT;unfold repeatExt at hL;split at hL
 ·rename_i s k heq;cases heq;split at hL
  ·rename_i hc;cases hL;cases hf1;cases hf2;obtain⟨h1,h2,h3⟩:=hc;have ec:s=txt [48]:=by rw[<- h1,qbd]
   subst ec;obtain⟨m,rfl⟩:∃m:Nat,k=m:=⟨k.toNat,by omega⟩;refine(qp5 m (by omega) w).mono ?_;rintro e w' ⟨rfl,hB⟩;exact⟨S,[],[.string (txt (List.replicate m 48))],rfl,⟨_,_,rfl,_,_,rfl,_,[],_,[],rfl,rfl,trivial,.str _,rfl,rfl,rfl⟩,q6f hS hTb hB,q7l⟩
  ·cases hL
 ·cases hL
theorem format_ok{E:Env}(hP:E.P=Tryz.prog){L L':List FV}(hL:formatExt L=some L'):Enters E.P 206/\q2w E.P 206 ⟨[.int .u64,.int .i64],[.skip,.skip,.str],[]⟩ L L':=by
 rw[hP];refine⟨⟨Tryz.f206,Tryz.func206,rfl,by kernel_rfl⟩,λw S V G hS hTb hT hgo=>?_⟩;obtain⟨v1,V1,x1,L1,rfl,rfl,hl1,hf1,v2,V2,x2,L2,rfl,rfl,hl2,hf2,rfl,rfl,rfl⟩:=hT;unfold formatExt at hL;split at hL
 ·rename_i z k heq;cases heq;split at hL
  ·rename_i hc;cases hL;cases hf1;cases hf2;obtain⟨h1,h2,rfl⟩:=hc;obtain⟨m,rfl⟩:∃m:Nat,z=m:=⟨z.toNat,by omega⟩;have h:=qp3 m (by omega) w (pow10_tab hTb);rw[qj6]at h;refine h.mono ?_;rintro e w' ⟨rfl,hB⟩;exact⟨S,[],[.string (txt (qk m))],rfl,⟨_,_,rfl,_,_,rfl,_,[],_,[],rfl,rfl,trivial,.str _,rfl,rfl,rfl⟩,q6f hS hTb hB,q7l⟩
  ·cases hL
 ·cases hL
theorem parse_ok{E:Env}(hP:E.P=Tryz.prog){L L':List FV}(hL:parseExt L=some L'):Enters E.P 249/\q2w E.P 249 ⟨[.str,.int .i64,.int .i64],[.skip,.skip,.skip,.int .u64,.raw .nilIface],[]⟩ L L':=by
 rw[hP];refine⟨⟨Tryz.f249,Tryz.func249,rfl,by kernel_rfl⟩,λw S V G hS hTb hT hgo=>?_⟩;obtain⟨v1,V1,x1,L1,rfl,rfl,hl1,hf1,v2,V2,x2,L2,rfl,rfl,hl2,hf2,v3,V3,x3,L3,rfl,rfl,hl3,hf3,rfl,rfl,rfl⟩:=hT;unfold parseExt at hL;split at hL
 ·rename_i s k z heq;cases heq;split at hL
  ·rename_i hc;cases hL;cases hf1;cases hf2;cases hf3;obtain⟨h1,h2,h3,rfl,rfl⟩:=hc;have h:=qp7 s.data.toList h1 h2 (List.all_eq_true.1 h3) w;rw[qbd]at h;refine h.mono ?_;rintro e w' ⟨rfl,hB⟩;exact⟨S,[],[.int .u64 (vD s.data.toList:Int),.nilIface],rfl,⟨_,_,rfl,_,_,rfl,_,_,rfl,_,_,_,_,rfl,rfl,rfl,.int _ _,_,[],_,[],rfl,rfl,⟨rfl,rfl⟩,.raw _,rfl,rfl,rfl⟩,q6f hS hTb hB,q7l⟩
  ·cases hL
 ·cases hL
theorem idx_ok{E:Env}(hP:E.P=Tryz.prog){L L':List FV}(hL:idxExt L=some L'):Enters E.P 262/\q2w E.P 262 ⟨[.str,.int .u8],[.skip,.skip,.int .i64],[]⟩ L L':=by
 rw[hP];refine⟨⟨Tryz.f262,Tryz.func262,rfl,by kernel_rfl⟩,λw S V G hS hTb hT hgo=>?_⟩;obtain⟨v1,V1,x1,L1,rfl,rfl,hl1,hf1,v2,V2,x2,L2,rfl,rfl,hl2,hf2,rfl,rfl,rfl⟩:=hT;unfold idxExt at hL;split at hL
 ·rename_i s c heq;cases heq;cases hL;cases hf1;cases hf2;have h:=Any.stringslite_IndexByte Tryz.lIndexByte s c w;rw[qj9]at h;change Calls Tryz.prog 262 _ _ (λe w'=>e=.returned (.int .i64 (ixB s.data.toList c.toNat.toUInt8))/\w'=w)at h;refine h.mono ?_;rintro e w' ⟨rfl,rfl⟩;exact⟨S,[],[.int .i64 (ixB s.data.toList c.toNat.toUInt8)],rfl,⟨_,_,rfl,_,_,rfl,_,[],_,[],rfl,rfl,rfl,.int _ _,rfl,rfl,rfl⟩,q6f hS hTb (Below.refl _ _),q7l⟩
 ·cases hL
end Rf
end
section
namespace Rf
open Go Go.Proofs Go.Shelf Go.RowKit Go.Sort Go.Lib
def jn(ps:List ByteArray)(k:Nat):List UInt8:=((ps.take k).map λs=>s.data.toList).flatten
theorem qfm{ps:List ByteArray}{k:Nat}(h:k<ps.length):jn ps (k+1)=jn ps k++ps[k].data.toList:=by
 unfold jn;rw[List.take_add_one,List.getElem?_eq_getElem h,Option.toList_some,List.map_append,List.flatten_append,List.map_cons,List.map_nil,List.flatten_cons,List.flatten_nil,List.append_nil]
theorem qdh{ps:List ByteArray}{k:Nat}(h:k<ps.length):(jn ps (k+1)).length=(jn ps k).length+ps[k].size:=by
 rw[qfm h,List.length_append,Array.length_toList];rfl
theorem jn_all(ps:List ByteArray):jn ps ps.length=(ps.map λs=>s.data.toList).flatten:=by unfold jn;rw[List.take_length]
theorem jn_le{ps:List ByteArray}:∀ {m k:Nat},k<=m->m<=ps.length->(jn ps k).length<=(jn ps m).length:=by
 intro m
 induction m with
 |zero =>
      intro k hk _;have:k=0:=by omega
      subst this;exact Nat.le_refl _
 |succ m ih =>
  intro k hk hm;rcases Nat.lt_or_ge k (m+1)with h | h
  ·have:=ih (k:=k) (by omega) (by omega);rw[qdh (by omega)];omega
  ·have:k=m+1:=by omega
   subst this;exact Nat.le_refl _
set_option maxRecDepth 100000 in
set_option maxHeartbeats 4000000 in
theorem join_main(b o c:Nat)(ps:List ByteArray)(w:World)(h2:2<=ps.length)(hcap:ps.length<=c)(hl:ps.length<=1099511627776)(ht:(jn ps ps.length).length<=1099511627776)
  (hc:Aside (∀k x,ps[k]?=some x->∀W:World,Below w.heap.size w W->W.cell? ⟨b,o+k,none⟩=some (.string x))) :
  Calls Tryz.prog 209 #[.slice (some ⟨b,o,none⟩) ps.length c,.string { data:=#[] }] w λe w'=>e=.returned (.string (txt (jn ps ps.length)))/\Below w.heap.size w w':=by
 have hne0:¬ (ps.length:Int)=0:=by omega
 have hne1:¬ (ps.length:Int)=1:=by omega
 go_enter Tryz.func209,Tryz.ntmps209
 go_wp2
 go_loopw [5,41] (λn i W=>Below w.heap.size w W/\∃k:Nat,k<=ps.length/\i=.int .i64 k/\n=.int .i64 ((jn ps k).length:Nat)) (λn i _=>ps.length-(RowKit.intOf i).toNat)
 case atStart=>exact⟨Below.refl _ _,0,Nat.zero_le _,rfl,rfl⟩
 case round =>
  obtain⟨hB,k,hk,rfl,rfl⟩:=hrel;by_cases hlt:k<ps.length
  ·have hcell:=hc.out k ps[k] (List.getElem?_eq_getElem hlt) wr hB;have hi:(k:Int)<(ps.length:Int):=by omega
   have hjl:=qdh hlt;have hjt:=jn_le (ps:=ps) (m:=ps.length) (k:=k+1) (by omega) (Nat.le_refl _);have hsz:ps[k].size<=1099511627776:=by omega
   have hjk:(jn ps k).length<=1099511627776:=by omega
   have HJ:Aside ((jn ps (k+1)).length=(jn ps k).length+ps[k].size):=hjl;have hgt:¬ ((ps[k].size:Int)>9223372036854775807-((jn ps k).length:Int)):=by omega
   clear hjl hjt;generalize ps[k]=x at *
   generalize (jn ps k).length=J at *
   go_wp2
   go_roundw
   case rel=>exact⟨⟨hB.os,hB.tape,hB.output,hB.size,hB.block⟩,k+1,by omega,by go_num,by rw[HJ.out];go_num⟩
   case measure=>simp[RowKit.intOf];omega
  ·have:k=ps.length:=by omega
   subst this;have hi:¬ (ps.length:Int)<(ps.length:Int):=by omega
   obtain⟨N,hN⟩:∃N,(jn ps ps.length).length=N:=⟨_,rfl⟩;rw[hN]at ht;have HN:Aside ((jn ps ps.length).length=N):=hN;rw[hN];clear hN;have b0:Below wr.heap.size wr (wr.alloc (.cells #[.pointer none,.slice none 0 0] 273)):=(Below.refl _ wr).alloc (Nat.le_refl _) _;have cG:=Any.Builder_Grow_fresh { Tryz.lRepeat with } Tryz.xRepeat wr.heap.size wr.heap.size N (wr.alloc (.cells #[.pointer none,.slice none 0 0] 273)) (Nat.le_refl _) (heap_alloc_new wr _) b0.size (by omega);have hB':Aside (Below w.heap.size w wr):=hB;clear hB
   go_wp2_with (go_at_call 238;go_fit cG;rintro e W1 ⟨rfl,h1,b1⟩;refine Hid.out ?_)
   refine Lib.hid ?_;clear cG;have b01:Below wr.heap.size wr W1:=b0.trans b1;have bw1:Below w.heap.size w W1:=hB'.out.trans (b01.mono hB'.out.size);have hz:0<ps.length:=by omega
   have hcell0:=hc.out 0 ps[0] (List.getElem?_eq_getElem hz) W1 bw1;rw[Nat.add_zero]at hcell0;have hj1:(jn ps 1).length=ps[0].size:=by rw[qdh hz];simp[jn]
   have hj1d:jn ps 1=ps[0].data.toList:=by rw[qfm hz];simp[jn]
   have hj1N:=jn_le (ps:=ps) (m:=ps.length) (k:=1) (by omega) (Nat.le_refl _);rw[HN.out]at hj1N;have cW:=Any.Builder_WriteString_f { Tryz.lRepeat with } Tryz.xRepeat wr.heap.size wr.heap.size [] ps[0] W1 (Lib.IsBuilderF.of (Or.inr h1)) (by simp;omega) b01.size;have HJ1:Aside (jn ps 1=ps[0].data.toList):=hj1d;have HBW1:Aside (Below w.heap.size w W1):=bw1;have HB01:Aside (Below wr.heap.size wr W1):=b01;clear hj1 hj1d hj1N bw1 b0 b1 b01 h1;generalize ps[0]=x at *
   have hpos:(0:Int)<(ps.length:Int):=by omega
   go_wp2_with (go_at_call 239;go_fit cW;rintro e W2 ⟨rfl,h2,b2⟩;refine Hid.out ?_)
   refine Lib.hid ?_;clear cW;have h2':Lib.IsBuilderF 273 5 wr.heap.size wr.heap.size (Lib.byteCells (jn ps 1)) W2:=by
    rw[List.nil_append,Lib.strCells_eq]at h2;rw[HJ1.out];exact Or.inr h2
   have HB02:Aside (Below wr.heap.size wr W2):=HB01.out.trans b2;have HBW2:Aside (Below w.heap.size w W2):=HBW1.out.trans (b2.mono hB'.out.size);clear h2 b2;have hlen1:(1:Int)<=(ps.length:Int):=by omega
   have hc1:¬ c=1:=by omega
   have hc2:¬ 1=c:=by omega
   have hc3:((c:Int)==1)=false:=by rw[beq_eq_false_iff_ne];omega
   go_wp2
   go_loopw [65] (λi W=>Below w.heap.size w W/\Below wr.heap.size wr W/\∃k:Nat,k+1<=ps.length/\i=.int .i64 k/\Lib.IsBuilderF 273 5 wr.heap.size wr.heap.size (Lib.byteCells (jn ps (k+1))) W) (λi _=>ps.length-1-(RowKit.intOf i).toNat)
   case atStart=>exact⟨HBW2.out,HB02.out,0,by omega,rfl,h2'⟩
   case round =>
    obtain⟨hBw,hBr,k,hk1,rfl,hbld⟩:=hrel;have hsize:=hBr.size;by_cases hlt2:k+1<ps.length
    ·have hcell:=hc.out (k+1) ps[k+1] (List.getElem?_eq_getElem hlt2) wr hBw;rw[show o+(k+1)=o+1+k by omega]at hcell;have hi2:(k:Int)<(ps.length:Int)-1:=by omega
     have hjl:=qdh hlt2;have hjs:=qfm hlt2;have hjN:=jn_le (ps:=ps) (m:=ps.length) (k:=k+1+1) (by omega) (Nat.le_refl _);rw[HN.out]at hjN;have e0:Lib.byteCells (jn ps (k+1))++Lib.strCells { data:=#[] }=Lib.byteCells (jn ps (k+1)):=by simp[Lib.strCells]
     have cW1:=Any.Builder_WriteString_f { Tryz.lRepeat with } Tryz.xRepeat _ _ _ { data:=#[] } wr hbld (by rw[Lib.byteCells_length];show _+0<=_;omega) hsize;rw[e0]at cW1;have cW2:=λ(B:Nat) (W:World) (hb:Lib.IsBuilderF 273 5 B B (Lib.byteCells (jn ps (k+1))) W) (hsz:B<=W.heap.size)=>Any.Builder_WriteString_f { Tryz.lRepeat with } Tryz.xRepeat B B _ ps[k+1] W hb (by rw[Lib.byteCells_length];omega) hsz;simp only[Lib.strCells_eq,<- Lib.byteCells_append,<- hjs]at cW2;have HJL:Aside (k+1<ps.length):=hlt2;have HBw:Aside (Below w.heap.size w wr):=hBw;have hwm:=hB'.out.size;clear hjl hjs hjN e0 hBw;generalize ps[k+1]=y at *
     go_wp2_with (go_at_call 239;go_fit cW1;rintro e W3 ⟨rfl,h3,b3⟩;refine Hid.out ?_)
     refine Lib.hid ?_;have cW3:=cW2 _ W3 (Or.inr h3) (Nat.le_trans hsize b3.size);clear cW1 cW2
     go_wp2_with (go_at_call 239;go_fit cW3;rintro e W4 ⟨rfl,h4,b4⟩;refine Hid.out ?_)
     refine Lib.hid ?_;clear cW3;have hb34:=b3.trans b4
     go_wp2
     go_roundw
     case rel=>exact⟨HBw.out.trans (hb34.mono hwm),hBr.trans hb34,k+1,by have:=HJL.out;omega,by go_num,Or.inr h4⟩
     case measure=>have:=HJL.out;simp[RowKit.intOf];omega
    ·have:k+1=ps.length:=by omega
     have hi2:¬ (k:Int)<(ps.length:Int)-1:=by omega
     rw[this]at hbld;have cStr:=Any.Builder_String_any_f { Tryz.lRepeat with } Tryz.xRepeat _ _ (jn ps ps.length) wr hbld hsize;have hwm:=hB'.out.size
     go_wp2_with (go_at_call 241;go_fit cStr;rintro e W5 ⟨rfl,h5,b5⟩;refine Hid.out ?_)
     refine Lib.hid ?_
     go_wp2
     go_ret
     exact⟨rfl,hBw.trans (b5.mono hwm)⟩
end Rf
end
end
section
namespace Rf
open Go Go.Proofs Go.Shelf Go.RowKit Go.Sort Go.Lib
theorem qui:(Tryz.prog.info? 231).map (λi=>(i.zero,i.size,i.bytes))=some (some (.int .u32 0),1,4):=by kernel_rfl
set_option maxHeartbeats 2000000 in
set_option maxRecDepth 100000 in
theorem quj(ad:Addr)(n c:Nat)(news:List Value)(w:World)(hl:news.length=n)(h1:∀u,u∈news->u.oneCell'=true)(hbig:n*4<=140737488355328)(hc:∀j u,news[j]?=some u->w.cell? (ad.add j)=some u) :
  Calls Tryz.prog 230 #[.slice (some ad) n c] w λe w'=>∃v',e=.returned v'/\w'.ownsRow w.heap.size 231 1 v' n news/\Below w.heap.size w w':=by
 obtain⟨i0,hi,hz0,hz1,hz2⟩:=info_parts qui;have q25:∀(w:World) (a:Option Addr) (n c n' c':Nat),(Go.binOp .eql 88 (.slice a n c) (.slice none n' c')).run Tryz.prog w=.ok (.bool a.isNone) w:=λw a n c n' c'=>Lib.run_eql_slice_nil w _ _ a n c n' c' Tryz.underlying88;have u25:∀w,Sem.run Tryz.prog (underlying 88) w=.ok (TypeDesc.slice 231) w:=run_underlying Tryz.underlying88;have A:Aside (∀j u,news[j]?=some u->w.cell? (ad.add j)=some u):=hc;have A1:Aside (∀u,u∈news->u.oneCell'=true):=h1;clear hc h1
 go_enter Tryz.func230,Tryz.ntmps230
 go_wp2_with (at_builtin;refine wpList_append_own _ rfl _ _ 88 rfl w.heap.size 231 i0 (.int .u32 0) 1 4 Tryz.underlying88 hi hz0 hz1 hz2 rfl (by decide) _ _ _ rfl (World.ownsRow_made w #[] 0 (Nat.le_refl _) (Nat.zero_le _) rfl) ad n c news rfl ?qc1 ?qc2 ?qc3 ?qc4 ?qc5 ?qc6 ?_)
 case qc1=>omega
 case qc2 =>
  intro j u hj;refine Lib.cell?_alloc_some _ ?_;exact A.out j u hj
 case qc3=>exact A1.out
 case qc4=>unfold maxLen;omega
 case qc5=>omega
 case qc6=>simp
 intro v' w1 hown hgrow hnil
 go_wp2
 go_ret
 refine⟨v',rfl,by simpa using hown,?_⟩;exact((Below.refl _ w).alloc (Nat.le_refl _) _).grown hgrow (by simp) (by intro k hk;simp[Value.ownBlock]at hk;omega)
theorem one_flat{w:World}{S:Nat->Prop}{c:FV}{v:Value}(h:FRep w S c v)(hf:c.flat=true):v.oneCell'=true:=by
 cases h with
 |int _ _=>rfl
 |bool _=>rfl
 |str _=>rfl
 |raw v=>exact hf
 |agg _ _ _ _=>simp[FV.flat]at hf
 |list _ _ _ _ _ _ _ _ _ _ _=>rfl
 |ref _ _ _ _ _ _ _ _=>rfl
theorem clone_ok{E:Env}(hP:E.P=Tryz.prog){L L':List FV}(hL:cloneExt L=some L'):Enters E.P 230/\q2w E.P 230 ⟨[.lst 1],[.skip,.own 1],[]⟩ L L':=by
 rw[hP];refine⟨⟨Tryz.f230,Tryz.func230,rfl,by kernel_rfl⟩,λw S V G hS hTb hT hgo=>?_⟩;obtain⟨v,V',x,L0,rfl,rfl,hlf,hfr,rfl,rfl,rfl⟩:=hT;unfold cloneExt at hL;split at hL
 ·rename_i xs heq;cases heq;split at hL
  ·rename_i hlen;cases hL;obtain⟨a,cap,b,o,rfl,hc,ha,hel,hrow⟩:=FRep.q30.1 hfr;obtain⟨rfl,hSb⟩:=ha hlen.1;have cell:∀i x,xs[i]?=some x->∃c u,x.cells=[c]/\cellAt w b (o+i)=some u/\FRep w S c u/\u.oneCell'=true:=λi x hi=>by
    have he:=hel x (List.mem_of_getElem? hi);obtain⟨c,hcs⟩:∃c,x.cells=[c]:=List.length_eq_one_iff.1 he.1;obtain⟨u,h1,h2⟩:=hrow i 0 x c hi (by rw[hcs];rfl);exact⟨c,u,hcs,by simpa using h1,h2,one_flat h2 (he.2 c (by rw[hcs];simp))⟩
   have hnews:∀j u,((List.range xs.length).map λj=>(cellAt w b (o+j)).getD undef)[j]?=some u->j<xs.length/\cellAt w b (o+j)=some u:=λj u hj=>by
    rw[List.getElem?_map]at hj;have hjl:j<xs.length:=by
     cases hr:(List.range xs.length)[j]? with
     |none=>rw[hr]at hj;simp at hj
     |some k=>have:=(List.getElem?_eq_some_iff.1 hr).1;simpa using this
    rw[List.getElem?_range hjl]at hj;obtain⟨c,u',_,h2,_⟩:=cell j xs[j] (List.getElem?_eq_getElem hjl);simp only[Option.map_some,h2,Option.getD_some,Option.some.injEq]at hj;rw[hj]at h2;exact⟨hjl,h2⟩
   refine(quj ⟨b,o,none⟩ xs.length cap ((List.range xs.length).map λj=>(cellAt w b (o+j)).getD undef) w (by simp) (λu hu=>?_) (by have:=hlen.2.1;omega) (λj u hj=>?_)).mono ?_
   ·obtain⟨j,hj⟩:=List.mem_iff_getElem?.1 hu;obtain⟨hjl,h2⟩:=hnews j u hj;obtain⟨c,u',_,h3,_,h4⟩:=cell j xs[j] (List.getElem?_eq_getElem hjl);rw[h2]at h3;cases h3;exact h4
   ·rw[q53];exact(hnews j u hj).2
   ·rintro e w' ⟨v',rfl,hown,hB⟩;have hlt:=hown.lt;rcases hown.2 with⟨rfl,h0⟩ | ⟨g,cap',cur,rfl,hb,hh,hcc,hm,hcs,ht⟩
    ·exact absurd (List.eq_nil_of_length_eq_zero h0) hlen.1
    have hg:=hlt g rfl;refine⟨S,[(⟨g,0,cap',false⟩,(some (1,xs.length),none))],[.slice (some ⟨g,0,none⟩) xs.length cap'],rfl,⟨_,_,rfl,⟨g,0,cap',false⟩,xs,[],[],rfl,rfl,⟨hcc,?_⟩,rfl,rfl,rfl⟩,q6f hS hTb hB,⟨λi g' sh h hn=>?_,λi j g1 g2 s s' h1 h2 _ _ _=>?_⟩⟩
    ·rw[if_neg (by simp)];refine⟨cur,231,hh,by show 0+cap'*1<=cur.size;omega,hel,λi j x c hi hj=>?_⟩;obtain⟨c',u,hcs',h2,h3,_⟩:=cell i x hi;rw[hcs']at hj;obtain⟨rfl,rfl⟩:j=0/\c=c':=by
      have:=(List.getElem?_eq_some_iff.1 hj).1;have hj0:j=0:=by simpa using this
      subst hj0;exact⟨rfl,by simpa using hj.symm⟩
     refine⟨u,?_,h3.mono (λb hb=>hB.block b (hS b hb)) λ_ h=>h⟩;have hil:=(List.getElem?_eq_some_iff.1 hi).1;rw[q5c hh];have e:(cur.toList.take (xs.length*1))[i]?=some u:=by rw[ht,List.getElem?_map,List.getElem?_range hil];simp[h2]
     rw[List.getElem?_take,if_pos (by omega)]at e;simpa using e
    ·cases i with
     |zero =>
      simp only[List.getElem?_cons_zero,Option.some.injEq,Prod.mk.injEq]at h;obtain⟨rfl,_⟩:=h
      exact⟨hg.2,λhs=>by
       have h1:=hg.1;have h2:g<w.heap.size:=hS _ hs
       omega,.inr hg.1⟩
     |succ i=>simp at h
    ·have e1:=(List.getElem?_eq_some_iff.1 h1).1;have e2:=(List.getElem?_eq_some_iff.1 h2).1;simp only[List.length_cons,List.length_nil]at e1 e2;omega
  ·cases hL
 ·cases hL
set_option maxRecDepth 100000 in
set_option maxHeartbeats 1000000 in
theorem join_zero(a:Option Addr)(c:Nat)(w:World):Calls Tryz.prog 209 #[.slice a 0 c,.string { data:=#[] }] w λe w'=>e=.returned (.string { data:=#[] })/\w'=w:=by
 go_enter Tryz.func209,Tryz.ntmps209
 go_wp2
 go_ret
 exact⟨rfl,rfl⟩
set_option maxRecDepth 100000 in
set_option maxHeartbeats 1000000 in
theorem join_one(b o c:Nat)(x:ByteArray)(w:World)(hc:w.cell? ⟨b,o,none⟩=some (.string x)):Calls Tryz.prog 209 #[.slice (some ⟨b,o,none⟩) 1 c,.string { data:=#[] }] w λe w'=>e=.returned (.string x)/\Below w.heap.size w w':=by
 go_enter Tryz.func209,Tryz.ntmps209
 go_wp2
 go_ret
 exact⟨rfl,Below.refl _ _⟩
def strV:FV->ByteArray
 |.str s=>s
 |_=>{ data:=#[] }
theorem byts_strV{xs:List FV}(h:xs.all q69=true):(xs.map strV).map (λs=>s.data.toList)=xs.map byts:=by
 rw[List.map_map];refine List.map_congr_left λx hx=>?_;have:=List.all_eq_true.1 h x hx;cases x <;> first | rfl | (simp[q69]at this)
theorem join_ok{E:Env}(hP:E.P=Tryz.prog){L L':List FV}(hL:joinExt L=some L'):Enters E.P 209/\q2w E.P 209 ⟨[.lst 1,.str],[.skip,.skip,.str],[]⟩ L L':=by
 rw[hP];refine⟨⟨Tryz.f209,Tryz.func209,rfl,by kernel_rfl⟩,λw S V G hS hTb hT hgo=>?_⟩;obtain⟨v1,V1,x1,L1,rfl,rfl,hl1,hf1,v2,V2,x2,L2,rfl,rfl,hl2,hf2,rfl,rfl,rfl⟩:=hT;unfold joinExt at hL;split at hL
 ·rename_i xs sep heq;cases heq;split at hL
  ·rename_i hh;cases hL;obtain⟨h0,hall,hlen,htot⟩:=hh;cases hf2;obtain⟨a,cap,b,o,rfl,hc,ha,hel,hrow⟩:=FRep.q30.1 hf1;have es:sep={ data:=#[] }:=by rw[<- qbd sep,h0];rfl
   subst es;have fin:∀ {w':World} {l:List UInt8},l=(xs.map byts).flatten->Below w.heap.size w w'->∃S' fin' R,Ending.returned (.string (txt l))=.returned (resV R)/\TRep w' S' [.skip,.skip,.str] ([Value.slice a xs.length cap,.string { data:=#[] }]++R) [.str (txt (xs.map byts).flatten)] [] fin'/\Keep ⟨w,S,q27 [],0,λ_=>none⟩ w' S'/\GOk ⟨w,S,q27 [],0,λ_=>none⟩ w' S' fin':=fun {w' l} hl hB=>by
    subst hl;exact⟨S,[],[.string (txt (xs.map byts).flatten)],rfl,⟨_,_,rfl,_,_,rfl,_,[],_,[],rfl,rfl,trivial,.str _,rfl,rfl,rfl⟩,q6f hS hTb hB,q7l⟩
   have cell:∀(k:Nat) (x:ByteArray),(xs.map strV)[k]?=some x->cellAt w b (o+k)=some (.string x):=λk x hk=>by
    rw[List.getElem?_map]at hk;cases hy:xs[k]? with
    |none=>rw[hy]at hk;cases hk
    |some y =>
     rw[hy]at hk;simp only[Option.map_some,Option.some.injEq]at hk;have hs:=List.all_eq_true.1 hall y (List.mem_of_getElem? hy);cases y with
     |str s =>
      obtain⟨u,h1,h2⟩:=hrow k 0 (.str s) (.str s) hy rfl;cases h2;rw[Nat.mul_one,Nat.add_zero]at h1;have:s=x:=hk;subst this;exact h1
     |_=>simp[q69]at hs
   match hx:xs with
   |[] =>
    refine(join_zero a cap w).mono ?_;rintro e w' ⟨rfl,rfl⟩;exact fin (l:=[]) rfl (Below.refl _ _)
   |[y] =>
    obtain⟨rfl,hSb⟩:=ha (by simp);refine(join_one b o cap (strV y) w (by have:=cell 0 (strV y) rfl;rwa[Nat.add_zero]at this)).mono ?_;rintro e w' ⟨rfl,hB⟩;have hs:=List.all_eq_true.1 hall y (by simp);cases y with
    |str s =>
     have:=fin (w':=w') (l:=s.data.toList) (by simp[byts]) hB;rwa[qbd]at this
    |_=>simp[q69]at hs
   |y::z::r =>
    obtain⟨rfl,hSb⟩:=ha (by simp);have hbl:=hS b hSb;have hj:jn ((y::z::r).map strV) ((y::z::r).map strV).length=((y::z::r).map byts).flatten:=by rw[jn_all,byts_strV hall]
    have h:=join_main b o cap ((y::z::r).map strV) w (by simp) (by simpa using hc) (by simpa using hlen) (by rw[hj];exact htot) (λk x hk W hB=>by
     have:=cell k x hk
     exact(q9d (hB.block b hbl) (o+k)).trans this)
    rw[List.length_map]at h;refine h.mono ?_;rintro e w' ⟨rfl,hB⟩;rw[List.length_map]at hj;exact fin hj hB
  ·cases hL
 ·cases hL
theorem q9v{α:Type}{k f:Nat}{x g:α}{r:List (Nat×α)}(h:lookN f ((k,x)::r)=some g):(f=k/\x=g)\/lookN f r=some g:=by
 unfold lookN at h;cases hb:Nat.beq k f with
 |true =>
  rw[hb,cond_true,Option.some.injEq]at h;exact .inl ⟨(Nat.eq_of_beq_eq_true hb).symm,h⟩
 |false=>rw[hb,cond_false]at h;exact .inr h
theorem ext_ok:q68 En:=by
 intro f g i L L' hf hi hL;have this:extT f=some g:=hf;unfold extT at this;rcases q9v this with⟨rfl,rfl⟩ | this
 ·rw[show En.fn 230=some ⟨[.lst 1],[.skip,.own 1],[]⟩ by kernel_rfl]at hi;cases hi;exact clone_ok rfl hL
 rcases q9v this with⟨rfl,rfl⟩ | this
 ·rw[show En.fn 206=some ⟨[.int .u64,.int .i64],[.skip,.skip,.str],[]⟩ by kernel_rfl]at hi;cases hi;exact format_ok rfl hL
 rcases q9v this with⟨rfl,rfl⟩ | this
 ·rw[show En.fn 207=some ⟨[.str,.int .i64],[.skip,.skip,.str],[]⟩ by kernel_rfl]at hi;cases hi;exact repeat_ok rfl hL
 rcases q9v this with⟨rfl,rfl⟩ | this
 ·rw[show En.fn 209=some ⟨[.lst 1,.str],[.skip,.skip,.str],[]⟩ by kernel_rfl]at hi;cases hi;exact join_ok rfl hL
 rcases q9v this with⟨rfl,rfl⟩ | this
 ·rw[show En.fn 248=some ⟨[.str,.str],[.skip,.skip,.str],[]⟩ by kernel_rfl]at hi;cases hi;exact trim_ok rfl hL
 rcases q9v this with⟨rfl,rfl⟩ | this
 ·rw[show En.fn 249=some ⟨[.str,.int .i64,.int .i64],[.skip,.skip,.skip,.int .u64,.raw .nilIface],[]⟩ by kernel_rfl]at hi;cases hi;exact parse_ok rfl hL
 rcases q9v this with⟨rfl,rfl⟩ | this
 ·rw[show En.fn 262=some ⟨[.str,.int .u8],[.skip,.skip,.int .i64],[]⟩ by kernel_rfl]at hi;cases hi;exact idx_ok rfl hL
 cases this
def tabG:Nat:=0
def tabT:Nat:=295
def tabE:Nat:=153
theorem qsi {W:World} (h:Lib.TabIs Tryz.prog W "internal/strconv.uint64pow10" .u64 Lib.pow10Tab):Tabs W (Old W):=by
 intro g cs hg;have e:=List.mem_singleton.1 hg;cases e;unfold Lib.TabIs World.var? at h;rw[show Tryz.prog.globalNamed "internal/strconv.uint64pow10" = some 0 by kernel_rfl]at h
 simp only[Option.bind_some]at h;split at h
 ·rename_i cs' e t hh;simp only[Option.some.injEq]at h;subst h;refine⟨?_,e,t,hh⟩;rcases Nat.lt_or_ge 0 W.heap.size with q | q
  ·exact q
  ·rw[Array.getElem?_eq_none q]at hh;cases hh
 ·cases h
end Rf
end
