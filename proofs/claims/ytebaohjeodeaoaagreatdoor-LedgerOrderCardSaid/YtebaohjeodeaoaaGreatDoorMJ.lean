/- Texts of this work put together: LibB, LibE, LibD. -/
import Derived.Ground.NamesProg
import Derived.Shelf.LaysM
import Derived.Shelf.Strings.Search1
import Derived.Shelf.Strconv.Itoa1
import Derived.Shelf.Strconv.Itoa2
import Derived.Test.YtebaohjeodeaoaaGreatDoorProg
import Derived.Lib.Walk
import Derived.Lib.ItoaMem
import Derived.Lib.AppendIntMem
import Derived.WalkKit
import Derived.BigCall
import Derived.BigGuard
import Derived.Shelf.Strings.SlTrimAscii
import Derived.Shelf.Strings.Repeat
import Derived.Shelf.Strconv.ParseUint10At
import Derived.Test.YtebaohjeodeaoaaGreatDoorMH
import Derived.Test.YtebaohjeodeaoaaGreatDoorMG
import Derived.LoopTactic
import Derived.Deep.LoopGhost
import Derived.Laws.RangeString
import Derived.Laws.RangeAny
import Derived.Below
import Derived.Lib.SliceRun

section
section
/- The library's contracts of the shelf, laid at this program. -/
namespace Go.Proofs
open Go.Shelf

def Tryz.lIndexByte_ren : Go.Shelf.Ren := ⟨fun | 217 => 192 | 266 => 226 | n => n, fun | 9 => 9 | 5 => 5 | 3 => 3 | n => n, fun | n => n⟩
theorem Tryz.lIndexByte : Go.Proofs.Lays.n217 Tryz.prog Tryz.lIndexByte_ren := {
  mixed := by kernel_rfl
  f217 := Tryz.func192.trans (congrArg some (by kernel_rfl))
  f266 := Tryz.func226.trans (congrArg some (by kernel_rfl))
  t3 := Tryz.underlying3
  a3 := Tryz.isAgg3
  z3 := Tryz.sizeOf3
  v3 := Tryz.zeroValue3
  t5 := Tryz.underlying5
  a5 := Tryz.isAgg5
  z5 := Tryz.sizeOf5
  v5 := Tryz.zeroValue5
  t9 := Tryz.underlying9
  a9 := Tryz.isAgg9
  z9 := Tryz.sizeOf9
  v9 := Tryz.zeroValue9 }

def Tryz.lSmall_ren : Go.Shelf.Ren := ⟨fun | 283 => 218 | n => n, fun | 3 => 3 | 9 => 9 | 4 => 4 | n => n, fun | n => n⟩
theorem Tryz.lSmall : Go.Proofs.Lays.n283 Tryz.prog Tryz.lSmall_ren := {
  mixed := by kernel_rfl
  f283 := Tryz.func218.trans (congrArg some (by kernel_rfl))
  t3 := Tryz.underlying3
  a3 := Tryz.isAgg3
  z3 := Tryz.sizeOf3
  v3 := Tryz.zeroValue3
  t4 := Tryz.underlying4
  a4 := Tryz.isAgg4
  z4 := Tryz.sizeOf4
  v4 := Tryz.zeroValue4
  t9 := Tryz.underlying9
  a9 := Tryz.isAgg9
  z9 := Tryz.sizeOf9
  v9 := Tryz.zeroValue9 }

def Tryz.lDigits_ren : Go.Shelf.Ren := ⟨fun | 284 => 219 | 129 => 184 | 317 => 239 | 318 => 240 | n => n, fun | 53 => 127 | 3 => 3 | 212 => 290 | 0 => 0 | 4 => 4 | 46 => 199 | 5 => 5 | 9 => 9 | n => n, fun | 17 => 1 | n => n⟩
theorem Tryz.lDigits : Go.Proofs.LaysM.n284 Tryz.prog Tryz.lDigits_ren := {
  mixed := by kernel_rfl
  f129 := Tryz.func184.trans (congrArg some (by kernel_rfl))
  f284 := Tryz.func219.trans (congrArg some (by kernel_rfl))
  f317 := Tryz.func239.trans (congrArg some (by kernel_rfl))
  f318 := Tryz.func240.trans (congrArg some (by kernel_rfl))
  t0 := Tryz.underlying0
  a0 := Tryz.isAgg0
  z0 := Tryz.sizeOf0
  v0 := Tryz.zeroValue0
  t3 := Tryz.underlying3
  a3 := Tryz.isAgg3
  z3 := Tryz.sizeOf3
  v3 := Tryz.zeroValue3
  t4 := Tryz.underlying4
  a4 := Tryz.isAgg4
  z4 := Tryz.sizeOf4
  v4 := Tryz.zeroValue4
  t5 := Tryz.underlying5
  a5 := Tryz.isAgg5
  z5 := Tryz.sizeOf5
  v5 := Tryz.zeroValue5
  t9 := Tryz.underlying9
  a9 := Tryz.isAgg9
  z9 := Tryz.sizeOf9
  v9 := Tryz.zeroValue9
  t46 := Tryz.underlying199
  a46 := Tryz.isAgg199
  z46 := Tryz.sizeOf199
  v46 := Tryz.zeroValue199
  t53 := Tryz.underlying127
  a53 := Tryz.isAgg127
  z53 := Tryz.sizeOf127
  v53 := Tryz.zeroValue127
  t212 := Tryz.underlying290
  a212 := Tryz.isAgg290
  z212 := Tryz.sizeOf290
  v212 := Tryz.zeroValue290
  g17 := by kernel_rfl
  i0 := by kernel_rfl
  i3 := by kernel_rfl
  i4 := by kernel_rfl
  i5 := by kernel_rfl
  i9 := by kernel_rfl
  i46 := by kernel_rfl
  i53 := by kernel_rfl
  i212 := by kernel_rfl
  m17 := by kernel_rfl }

def Tryz.lBase10_ren : Go.Shelf.Ren := ⟨fun | 285 => 220 | n => n, fun | 37 => 174 | 53 => 127 | 3 => 3 | 4 => 4 | 51 => 198 | 9 => 9 | 5 => 5 | 0 => 0 | n => n, fun | n => n⟩
theorem Tryz.lBase10 : Go.Proofs.Lays.n285 Tryz.prog Tryz.lBase10_ren := {
  mixed := by kernel_rfl
  f285 := Tryz.func220.trans (congrArg some (by kernel_rfl))
  t0 := Tryz.underlying0
  a0 := Tryz.isAgg0
  z0 := Tryz.sizeOf0
  v0 := Tryz.zeroValue0
  t3 := Tryz.underlying3
  a3 := Tryz.isAgg3
  z3 := Tryz.sizeOf3
  v3 := Tryz.zeroValue3
  t4 := Tryz.underlying4
  a4 := Tryz.isAgg4
  z4 := Tryz.sizeOf4
  v4 := Tryz.zeroValue4
  t5 := Tryz.underlying5
  a5 := Tryz.isAgg5
  z5 := Tryz.sizeOf5
  v5 := Tryz.zeroValue5
  t9 := Tryz.underlying9
  a9 := Tryz.isAgg9
  z9 := Tryz.sizeOf9
  v9 := Tryz.zeroValue9
  t37 := Tryz.underlying174
  a37 := Tryz.isAgg174
  z37 := Tryz.sizeOf174
  v37 := Tryz.zeroValue174
  t51 := Tryz.underlying198
  a51 := Tryz.isAgg198
  z51 := Tryz.sizeOf198
  v51 := Tryz.zeroValue198
  t53 := Tryz.underlying127
  a53 := Tryz.isAgg127
  z53 := Tryz.sizeOf127
  v53 := Tryz.zeroValue127 }


end Go.Proofs
end

section
/- strconv.FormatUint at base 10: a number's decimal digits. -/
set_option linter.unusedSimpArgs false
set_option linter.unusedVariables false
namespace Rf
open Go Go.Proofs Go.Shelf Go.RowKit Go.Sort Go.Lib

theorem below_gd (w : World) (q : Nat) (os : Array Obj) : Below w.heap.size w (grow (w.drewN q) os) := by
  refine ⟨rfl, rfl, rfl, ?_, fun b hb => ?_⟩
  · show w.heap.size ≤ (w.heap ++ os).size
    simp
  · show (w.heap ++ os)[b]? = w.heap[b]?
    rw [Array.getElem?_append_left hb]

theorem fin0 (w : World) (o : Obj) (dk : Array UInt8) (k : Nat) : ∃ os, (putRow (fun (b : UInt8) => Value.int .u8 (b.toNat : Int)) (w.alloc o) w.heap.size 0 dk).drewN k = grow (w.drewN k) os := by
  rw [alloc_eq_grow]
  obtain ⟨os', _, e⟩ := putRow_grow_new (fun (b : UInt8) => Value.int .u8 (b.toNat : Int)) w #[o] w.heap.size 0 dk (Nat.le_refl _)
  exact ⟨os', by rw [e]; rfl⟩

set_option maxHeartbeats 6400000 in
set_option maxRecDepth 100000 in
theorem formatIn (u : Nat) (hu64 : u < 18446744073709551616) (w : World) (htab : Lib.TabIs Tryz.prog w "internal/strconv.uint64pow10" .u64 Lib.pow10Tab) :
    Calls Tryz.prog 185 #[.int .u64 u, .int .i64 10] w fun e w' => e = .returned (.string ⟨(Lib.decDigits u).toArray⟩) ∧ Below w.heap.size w w' := by
  by_cases hs : u < 100
  · go_enter Tryz.func185, Tryz.ntmps185
    go_wp2_with (go_at_call 218; refine (Any.internal_strconv_small Tryz.lSmall u hs _).mono ?_; rintro e w' ⟨rfl, rfl⟩)
    go_ret
    exact ⟨rfl, Below.refl _ _⟩
  · have hu1 : 1 ≤ u := by omega
    have hnd20 : Lib.nDigits u ≤ 20 := by have := Lib.numDigits_eq u hu1 hu64; split at this <;> omega
    have hal : Tryz.prog.arrayLen 269 = 24 := by kernel_rfl
    have hsl1 : ∀ W, (Instr.sliceAt 269 (.pointer (some ⟨w.heap.size, 0, none⟩)) none (some (.int .i64 (Lib.nDigits u : Int))) none).run Tryz.prog W = .ok (.slice (some ⟨w.heap.size, 0, none⟩) (Lib.nDigits u) 24) W := fun W => by
      rw [run_sliceAt_array_h W 269 ⟨w.heap.size, 0, none⟩ (by kernel_rfl) .i64 (Lib.nDigits u : Int) (by omega) (by rw [hal]; omega)]
      rw [hal, show Tryz.prog.elem 269 = 5 by kernel_rfl]
      have z5 : (Go.sizeOf 5).run Tryz.prog W = .ok 1 W := Tryz.lBase10.z5 W
      rw [z5]
      simp [Result.andThen, slicedAt, Lib.add_plain]
    have hH0 := Lib.holds_zero0 w 269 (Lib.nDigits u) (by omega)
    have hfmt := Any.internal_strconv_formatBase10 Tryz.lBase10 w.heap.size 0 24 u (Array.replicate (Lib.nDigits u) 0) (w.alloc (.cells Lib.zeros24 269)) hH0 (by rw [Array.size_replicate]; exact Lib.lt_pow_nDigits u) hu64 (by rw [Array.size_replicate]; omega)
    rw [Array.size_replicate] at hfmt
    have HH0 := Lib.hid hH0
    clear hH0 hal
    go_enter Tryz.func185, Tryz.ntmps185
    go_wp2_with (first
      | (go_at_call 219; refine (Any.internal_strconv_numDigits Tryz.lDigits u hu1 hu64 _ (Lib.tabIs_alloc htab _)).mono ?_; rintro e w' ⟨rfl, rfl⟩))
    go_at_call 220
    refine hfmt.mono ?_
    rintro e w' ⟨rfl, k, v', dk, rfl, hF⟩
    have hcv : (convert 174 9 (.slice (some ⟨w.heap.size, 0, none⟩) (Lib.nDigits u) 24)).run Tryz.prog ((putRow (fun (b : UInt8) => Value.int .u8 (b.toNat : Int)) (w.alloc (.cells Lib.zeros24 269)) w.heap.size 0 dk).drewN k) = .ok (.string ⟨(Lib.decDigits u).toArray⟩) ((putRow (fun (b : UInt8) => Value.int .u8 (b.toNat : Int)) (w.alloc (.cells Lib.zeros24 269)) w.heap.size 0 dk).drewN k) := by
      have h := run_convert_bytes_back (P := Tryz.prog) ((putRow (fun (b : UInt8) => Value.int .u8 (b.toNat : Int)) (w.alloc (.cells Lib.zeros24 269)) w.heap.size 0 dk).drewN k) 174 9 5 ⟨w.heap.size, 0, none⟩ 24 (Lib.decDigits u) (by kernel_rfl) (by kernel_rfl) (by kernel_rfl) (fun j hj => by
        rw [Lib.row_is_numeral hF j hj, Lib.add_plain, World.cell?_drewN]
        exact cell?_putRow (fun (b : UInt8) => Value.int .u8 (b.toNat : Int)) _ w.heap.size 0 _ dk HH0.out (by rw [hF.size, Array.size_replicate]) j (by rw [hF.size]; rw [Lib.decDigits_length] at hj; exact hj))
      rw [Lib.decDigits_length] at h
      exact h
    go_wp2
    go_ret
    obtain ⟨os, eo⟩ := fin0 w (.cells Lib.zeros24 269) dk k
    exact ⟨rfl, by rw [eo]; exact below_gd w k os⟩

theorem format_calls (u : Nat) (hu64 : u < 18446744073709551616) (w : World) (htab : Lib.TabIs Tryz.prog w "internal/strconv.uint64pow10" .u64 Lib.pow10Tab) :
    Calls Tryz.prog 154 #[.int .u64 u, .int .i64 10] w fun e w' => e = .returned (.string ⟨(Lib.decDigits u).toArray⟩) ∧ Below w.heap.size w w' := by
  go_enter Tryz.func154, Tryz.ntmps154
  go_wp2_with (go_at_call 185; refine (formatIn u hu64 _ htab).mono ?_; rintro e w' ⟨rfl, hB⟩)
  go_ret
  exact ⟨rfl, hB⟩

end Rf
end

section
/- The library's contracts as the interpreter's: texts and numbers. -/
set_option linter.unusedSimpArgs false
set_option linter.unusedVariables false
namespace Go.Proofs
open Go.Shelf
def Tryz.lTrim_ren : Go.Shelf.Ren := ⟨fun | 160 => 160 | 232 => 198 | 231 => 197 | 227 => 199 | 234 => 201 | 233 => 200 | 236 => 203 | 235 => 202 | 228 => 228 | 271 => 231 | 151 => 230 | 197 => 229 | 120 => 247 | 152 => 246 | 260 => 245 | 137 => 253 | 119 => 254 | 224 => 194 | 225 => 193 | 217 => 192 | 266 => 226 | n => n, fun | 9 => 9 | 4 => 4 | 3 => 3 | 5 => 5 | 117 => 252 | 116 => 251 | 0 => 0 | 124 => 255 | 21 => 21 | 105 => 279 | 46 => 199 | 119 => 299 | 139 => 302 | 138 => 301 | n => n, fun | 3 => 4 | 4 => 5 | n => n⟩
theorem Tryz.lTrim : Go.Proofs.Lays.n160 Tryz.prog Tryz.lTrim_ren := {
  mixed := by kernel_rfl
  f119 := Tryz.func254.trans (congrArg some (by kernel_rfl))
  f120 := Tryz.func247.trans (congrArg some (by kernel_rfl))
  f137 := Tryz.func253.trans (congrArg some (by kernel_rfl))
  f151 := Tryz.func230.trans (congrArg some (by kernel_rfl))
  f152 := Tryz.func246.trans (congrArg some (by kernel_rfl))
  f160 := Tryz.func160.trans (congrArg some (by kernel_rfl))
  f197 := Tryz.func229.trans (congrArg some (by kernel_rfl))
  f217 := Tryz.func192.trans (congrArg some (by kernel_rfl))
  f224 := Tryz.func194.trans (congrArg some (by kernel_rfl))
  f225 := Tryz.func193.trans (congrArg some (by kernel_rfl))
  f227 := Tryz.func199.trans (congrArg some (by kernel_rfl))
  f228 := Tryz.func228.trans (congrArg some (by kernel_rfl))
  f231 := Tryz.func197.trans (congrArg some (by kernel_rfl))
  f232 := Tryz.func198.trans (congrArg some (by kernel_rfl))
  f233 := Tryz.func200.trans (congrArg some (by kernel_rfl))
  f234 := Tryz.func201.trans (congrArg some (by kernel_rfl))
  f235 := Tryz.func202.trans (congrArg some (by kernel_rfl))
  f236 := Tryz.func203.trans (congrArg some (by kernel_rfl))
  f260 := Tryz.func245.trans (congrArg some (by kernel_rfl))
  f266 := Tryz.func226.trans (congrArg some (by kernel_rfl))
  f271 := Tryz.func231.trans (congrArg some (by kernel_rfl))
  t0 := Tryz.underlying0
  a0 := Tryz.isAgg0
  z0 := Tryz.sizeOf0
  v0 := Tryz.zeroValue0
  t3 := Tryz.underlying3
  a3 := Tryz.isAgg3
  z3 := Tryz.sizeOf3
  v3 := Tryz.zeroValue3
  t4 := Tryz.underlying4
  a4 := Tryz.isAgg4
  z4 := Tryz.sizeOf4
  v4 := Tryz.zeroValue4
  t5 := Tryz.underlying5
  a5 := Tryz.isAgg5
  z5 := Tryz.sizeOf5
  v5 := Tryz.zeroValue5
  t9 := Tryz.underlying9
  a9 := Tryz.isAgg9
  z9 := Tryz.sizeOf9
  v9 := Tryz.zeroValue9
  t21 := Tryz.underlying21
  a21 := Tryz.isAgg21
  z21 := Tryz.sizeOf21
  v21 := Tryz.zeroValue21
  t46 := Tryz.underlying199
  a46 := Tryz.isAgg199
  z46 := Tryz.sizeOf199
  v46 := Tryz.zeroValue199
  t105 := Tryz.underlying279
  a105 := Tryz.isAgg279
  z105 := Tryz.sizeOf279
  v105 := Tryz.zeroValue279
  t116 := Tryz.underlying251
  a116 := Tryz.isAgg251
  z116 := Tryz.sizeOf251
  t117 := Tryz.underlying252
  a117 := Tryz.isAgg252
  z117 := Tryz.sizeOf252
  v117 := Tryz.zeroValue252
  t119 := Tryz.underlying299
  a119 := Tryz.isAgg299
  z119 := Tryz.sizeOf299
  t124 := Tryz.underlying255
  a124 := Tryz.isAgg255
  z124 := Tryz.sizeOf255
  v124 := Tryz.zeroValue255
  t138 := Tryz.underlying301
  a138 := Tryz.isAgg301
  z138 := Tryz.sizeOf301
  v138 := Tryz.zeroValue301
  t139 := Tryz.underlying302
  a139 := Tryz.isAgg302
  z139 := Tryz.sizeOf302
  v139 := Tryz.zeroValue302
  g3 := by kernel_rfl
  g4 := by kernel_rfl }

def Tryz.lRepeat_ren : Go.Shelf.Ren := ⟨fun | 105 => 155 | 212 => 186 | 99 => 187 | 165 => 188 | 166 => 189 | 170 => 190 | 169 => 191 | 263 => 222 | 264 => 223 | 206 => 196 | 240 => 224 | 241 => 225 | 276 => 243 | 277 => 244 | n => n, fun | 9 => 9 | 3 => 3 | 4 => 4 | 20 => 20 | 0 => 0 | 46 => 199 | 109 => 239 | 5 => 5 | 72 => 243 | 76 => 245 | 51 => 198 | 146 => 202 | 53 => 127 | 148 => 274 | 70 => 241 | 37 => 174 | 75 => 214 | 127 => 276 | 164 => 292 | 80 => 49 | n => n, fun | n => n⟩
theorem Tryz.lRepeat : Go.Proofs.Lays.n105 Tryz.prog Tryz.lRepeat_ren := {
  mixed := by kernel_rfl
  f99 := Tryz.func187.trans (congrArg some (by kernel_rfl))
  f105 := Tryz.func155.trans (congrArg some (by kernel_rfl))
  f165 := Tryz.func188.trans (congrArg some (by kernel_rfl))
  f166 := Tryz.func189.trans (congrArg some (by kernel_rfl))
  f169 := Tryz.func191.trans (congrArg some (by kernel_rfl))
  f170 := Tryz.func190.trans (congrArg some (by kernel_rfl))
  f206 := Tryz.func196.trans (congrArg some (by kernel_rfl))
  f212 := Tryz.func186.trans (congrArg some (by kernel_rfl))
  f240 := Tryz.func224.trans (congrArg some (by kernel_rfl))
  f241 := Tryz.func225.trans (congrArg some (by kernel_rfl))
  f263 := Tryz.func222.trans (congrArg some (by kernel_rfl))
  f264 := Tryz.func223.trans (congrArg some (by kernel_rfl))
  f276 := Tryz.func243.trans (congrArg some (by kernel_rfl))
  f277 := Tryz.func244.trans (congrArg some (by kernel_rfl))
  t0 := Tryz.underlying0
  a0 := Tryz.isAgg0
  z0 := Tryz.sizeOf0
  v0 := Tryz.zeroValue0
  t3 := Tryz.underlying3
  a3 := Tryz.isAgg3
  z3 := Tryz.sizeOf3
  v3 := Tryz.zeroValue3
  t4 := Tryz.underlying4
  a4 := Tryz.isAgg4
  z4 := Tryz.sizeOf4
  v4 := Tryz.zeroValue4
  t5 := Tryz.underlying5
  a5 := Tryz.isAgg5
  z5 := Tryz.sizeOf5
  v5 := Tryz.zeroValue5
  t9 := Tryz.underlying9
  a9 := Tryz.isAgg9
  z9 := Tryz.sizeOf9
  v9 := Tryz.zeroValue9
  t20 := Tryz.underlying20
  a20 := Tryz.isAgg20
  z20 := Tryz.sizeOf20
  v20 := Tryz.zeroValue20
  t37 := Tryz.underlying174
  a37 := Tryz.isAgg174
  z37 := Tryz.sizeOf174
  v37 := Tryz.zeroValue174
  t46 := Tryz.underlying199
  a46 := Tryz.isAgg199
  z46 := Tryz.sizeOf199
  v46 := Tryz.zeroValue199
  t51 := Tryz.underlying198
  a51 := Tryz.isAgg198
  z51 := Tryz.sizeOf198
  v51 := Tryz.zeroValue198
  t53 := Tryz.underlying127
  a53 := Tryz.isAgg127
  z53 := Tryz.sizeOf127
  v53 := Tryz.zeroValue127
  t70 := Tryz.underlying241
  a70 := Tryz.isAgg241
  z70 := Tryz.sizeOf241
  v70 := Tryz.zeroValue241
  t72 := Tryz.underlying243
  a72 := Tryz.isAgg243
  z72 := Tryz.sizeOf243
  v72 := Tryz.zeroValue243
  t75 := Tryz.underlying214
  a75 := Tryz.isAgg214
  z75 := Tryz.sizeOf214
  v75 := Tryz.zeroValue214
  t76 := Tryz.underlying245
  a76 := Tryz.isAgg245
  z76 := Tryz.sizeOf245
  v76 := Tryz.zeroValue245
  t109 := Tryz.underlying239
  a109 := Tryz.isAgg239
  z109 := Tryz.sizeOf239
  v109 := Tryz.zeroValue239
  t127 := Tryz.underlying276
  a127 := Tryz.isAgg276
  z127 := Tryz.sizeOf276
  v127 := Tryz.zeroValue276
  t146 := Tryz.underlying202
  a146 := Tryz.isAgg202
  z146 := Tryz.sizeOf202
  v146 := Tryz.zeroValue202
  t148 := Tryz.underlying274
  a148 := Tryz.isAgg274
  z148 := Tryz.sizeOf274
  v148 := Tryz.zeroValue274
  t164 := Tryz.underlying292
  a164 := Tryz.isAgg292
  z164 := Tryz.sizeOf292
  v164 := Tryz.zeroValue292 }

def Tryz.lParse_ren : Go.Shelf.Ren := ⟨fun | 287 => 204 | 321 => 232 | 322 => 233 | n => n, fun | 9 => 9 | 3 => 3 | 53 => 127 | 75 => 214 | 4 => 4 | 167 => 282 | 5 => 5 | 46 => 199 | 37 => 174 | 0 => 0 | 21 => 21 | 80 => 49 | n => n, fun | n => n⟩
theorem Tryz.lParse : Go.Proofs.Lays.n287 Tryz.prog Tryz.lParse_ren := {
  mixed := by kernel_rfl
  f287 := Tryz.func204.trans (congrArg some (by kernel_rfl))
  f321 := Tryz.func232.trans (congrArg some (by kernel_rfl))
  f322 := Tryz.func233.trans (congrArg some (by kernel_rfl))
  t0 := Tryz.underlying0
  a0 := Tryz.isAgg0
  z0 := Tryz.sizeOf0
  v0 := Tryz.zeroValue0
  t3 := Tryz.underlying3
  a3 := Tryz.isAgg3
  z3 := Tryz.sizeOf3
  v3 := Tryz.zeroValue3
  t4 := Tryz.underlying4
  a4 := Tryz.isAgg4
  z4 := Tryz.sizeOf4
  v4 := Tryz.zeroValue4
  t5 := Tryz.underlying5
  a5 := Tryz.isAgg5
  z5 := Tryz.sizeOf5
  v5 := Tryz.zeroValue5
  t9 := Tryz.underlying9
  a9 := Tryz.isAgg9
  z9 := Tryz.sizeOf9
  v9 := Tryz.zeroValue9
  t21 := Tryz.underlying21
  a21 := Tryz.isAgg21
  z21 := Tryz.sizeOf21
  v21 := Tryz.zeroValue21
  t37 := Tryz.underlying174
  a37 := Tryz.isAgg174
  z37 := Tryz.sizeOf174
  v37 := Tryz.zeroValue174
  t46 := Tryz.underlying199
  a46 := Tryz.isAgg199
  z46 := Tryz.sizeOf199
  v46 := Tryz.zeroValue199
  t53 := Tryz.underlying127
  a53 := Tryz.isAgg127
  z53 := Tryz.sizeOf127
  v53 := Tryz.zeroValue127
  t75 := Tryz.underlying214
  a75 := Tryz.isAgg214
  z75 := Tryz.sizeOf214
  v75 := Tryz.zeroValue214
  t167 := Tryz.underlying282
  a167 := Tryz.isAgg282
  z167 := Tryz.sizeOf282
  v167 := Tryz.zeroValue282 }


theorem Tryz.xRepeat : Builder.Extra Tryz.prog Tryz.lRepeat_ren where
  sizeBuilder := by kernel_rfl
  liesBuilder := by kernel_rfl
  t5 := Tryz.lRepeat.t5
  a5 := Tryz.lRepeat.a5
  z5 := Tryz.lRepeat.z5
  v5 := Tryz.lRepeat.v5
  infoByte := by kernel_rfl
  cellsByte := by kernel_rfl
  sizeByte := by kernel_rfl
  neB5 := by decide
end Go.Proofs

namespace Rf
open Go Go.Proofs Go.Shelf Go.RowKit Go.Sort Go.Lib

/-! ### what they say, in words of this work -/
theorem decDigits_dtext : ∀ (n : Nat), decDigits n = dtext n := by
  have key : ∀ n, n ≠ 0 → decDigits n = ((Rf.dg 10 n).reverse).map chD := by
    intro n
    induction n using Nat.strongRecOn with
    | _ n ih =>
      intro h0
      rw [decDigits, dg_pos (by omega) h0]
      by_cases h : n < 10
      · rw [dif_pos h, Nat.div_eq_of_lt h, dg_zero, Nat.mod_eq_of_lt h]; rfl
      · rw [dif_neg h, ih (n / 10) (by omega) (by omega), List.reverse_cons, List.map_append]; rfl
  intro n
  unfold dtext
  by_cases h : n = 0
  · subst h; rw [if_pos rfl, decDigits]; rfl
  · rw [if_neg h, key n h]

theorem repeatL_rep (c : UInt8) : ∀ k, repeatL [c] k = List.replicate k c
  | 0 => rfl
  | k + 1 => by rw [repeatL, repeatL_rep c k, List.replicate_succ]; rfl

theorem parseUintM_vD {M : Nat} (hM : M < 18446744073709551616) : ∀ (l : List UInt8) (acc : Nat), (∀ c, c ∈ l → isD c = true) → acc * 10 ^ l.length + vD l ≤ M → acc * 10 ^ l.length + vD l < 1000000000000 → parseUintM M acc l = .ok (acc * 10 ^ l.length + vD l)
  | [], acc, _, _, _ => by simp [parseUintM, vD]
  | c :: r, acc, hd, hle, hlt => by
    have hc := hd c (by simp)
    simp only [isD, Bool.and_eq_true, decide_eq_true_eq] at hc
    have e : acc * 10 ^ (c :: r).length + vD (c :: r) = (acc * 10 + (c.toNat - 48)) * 10 ^ r.length + vD r := by
      have := vD_app [c] r
      rw [List.singleton_append] at this
      rw [this, List.length_cons, Nat.pow_succ, Nat.add_mul]
      simp only [vD, List.foldl_cons, List.foldl_nil, Nat.zero_mul, Nat.zero_add]
      rw [Nat.mul_comm (10 ^ r.length) 10, ← Nat.mul_assoc]
      omega
    rw [e] at hle hlt ⊢
    have hp : 1 ≤ 10 ^ r.length := Nat.one_le_pow _ _ (by omega)
    have h2 := Nat.mul_le_mul_left (acc * 10 + (c.toNat - 48)) hp
    rw [parseUintM, if_pos hc, if_neg (by omega), if_neg (by omega)]
    exact parseUintM_vD hM r _ (fun x hx => hd x (by simp [hx])) hle hlt

theorem trimS_trimL (l cs : List UInt8) : trimS l cs = trimL l cs := rfl

theorem indexByte_ix (c : UInt8) : ∀ l : List UInt8, Lib.indexByte l c = ixB l c
  | [] => rfl
  | b :: l => by simp only [Lib.indexByte, ixB, indexByte_ix c l]

/-! ### the calls -/
theorem txt_eq_of (l : List UInt8) : (⟨l.toArray⟩ : ByteArray) = txt l := rfl

theorem trim_calls (s : ByteArray) (w : World) (hs : s.data.toList.length ≤ 1099511627776) :
    Calls Tryz.prog 160 #[.string s, .string (txt dgts)] w fun e w' => e = .returned (.string (txt (trimL s.data.toList dgts))) ∧ Below w.heap.size w w' := by
  have hs' : s.size ≤ 9223372036854775807 := by have : s.size = s.data.toList.length := by rw [Array.length_toList]; rfl
                                                omega
  exact Any.strings_Trim_laid Tryz.lTrim (by kernel_rfl) s (txt dgts) w hs' (by decide) (ascii_of_all (by decide))

theorem repeat_calls (k : Nat) (hk : k ≤ 9) (w : World) :
    Calls Tryz.prog 155 #[.string (txt [48]), .int .i64 k] w fun e w' => e = .returned (.string (txt (List.replicate k 48))) ∧ Below w.heap.size w w' := by
  have h := Any.strings_Repeat Tryz.lRepeat Tryz.xRepeat (txt [48]) k w (by omega) (by show 1 * k ≤ _; omega)
  refine h.mono fun e w' ⟨he, hB⟩ => ⟨?_, hB⟩
  rw [he, txt_data, repeatL_rep]; rfl

theorem below_bytes (w : World) (t : TypeId) (s : ByteArray) : Below w.heap.size w (Lib.bytesWorld w t s) :=
  below_freeze ((Below.drew (Below.refl _ w)).alloc (Nat.le_refl _) _) (p := ⟨w.heap.size, _, none⟩) (Nat.le_refl _) 1

theorem parse_in (l : List UInt8) (h0 : l ≠ []) (h9 : l.length ≤ 9) (hd : ∀ c, c ∈ l → isD c = true) (w : World) :
    Calls Tryz.prog 204 #[.string (txt l), .int .i64 10, .int .i64 32] w fun e w' => e = .returned (.tuple #[.int .u64 (vD l : Int), .nilIface]) ∧ Below w.heap.size w w' := by
  have h := Any.internal_strconv_ParseUint_10_at32 Tryz.lParse (txt l) (by rw [txt_size]; omega) w
  have hv := vD_lt hd
  have hp : 10 ^ l.length ≤ 10 ^ 9 := Nat.pow_le_pow_right (by omega) h9
  have h10 : (10 : Nat) ^ 9 = 1000000000 := rfl
  have h32 : (2 : Nat) ^ 32 - 1 = 4294967295 := rfl
  have hM := parseUintM_vD (M := 2 ^ 32 - 1) (by decide) l 0 hd (by omega) (by omega)
  rw [Nat.zero_mul, Nat.zero_add] at hM
  have e : parseUintB 32 (txt l).data.toList = .ok (vD l) := by rw [txt_data, parseUintB, if_neg h0, hM]
  rw [e] at h
  change Calls Tryz.prog 204 _ _ (fun e w' => e = .returned (.tuple #[.int .u64 (vD l : Int), .nilIface]) ∧ (w' = w ∨ w' = Lib.bytesWorld w (Tryz.lParse_ren.t 5) (txt l))) at h
  refine h.mono fun e w' ⟨he, hw⟩ => ⟨he, ?_⟩
  rcases hw with rfl | rfl
  · exact Below.refl _ _
  · exact below_bytes _ _ _

theorem parse_calls (l : List UInt8) (h0 : l ≠ []) (h9 : l.length ≤ 9) (hd : ∀ c, c ∈ l → isD c = true) (w : World) :
    Calls Tryz.prog 161 #[.string (txt l), .int .i64 10, .int .i64 32] w fun e w' => e = .returned (.tuple #[.int .u64 (vD l : Int), .nilIface]) ∧ Below w.heap.size w w' := by
  have h := parse_in l h0 h9 hd w
  generalize txt l = s at h ⊢
  go_enter Tryz.func161, Tryz.ntmps161
  go_wp2_with (go_at_call 204; refine h.mono ?_; rintro e w' ⟨rfl, hB⟩)
  go_ret2
  exact ⟨rfl, hB⟩

/-! ### the table of the powers of ten -/
theorem pow10_tab {w : World} {S : Nat → Prop} (h : Tabs w S) : Lib.TabIs Tryz.prog w "internal/strconv.uint64pow10" .u64 Lib.pow10Tab := by
  obtain ⟨_, e, t, h2⟩ := h 1 _ (List.mem_singleton.2 rfl)
  unfold Lib.TabIs World.var?
  rw [show Tryz.prog.globalNamed "internal/strconv.uint64pow10" = some 1 by kernel_rfl]
  simp only [Option.bind_some, h2]
  rfl

/-! ### as contracts of the interpreter -/
theorem keep_pure {w w' : World} {S : Nat → Prop} (hS : ∀ b, S b → b < w.heap.size) (hT : Tabs w S) (hB : Below w.heap.size w w') : Keep ⟨w, S, Given [], 0, fun _ => none⟩ w' S :=
  ⟨hB.size, fun b h _ => hB.block b h, hB.os, hB.tape, hB.output, fun b h => Nat.lt_of_lt_of_le (hS b h) hB.size, fun b h => h, fun b h => .inl h, ⟨hT, fun b hb => by obtain ⟨i, g, sh, h, _⟩ := hb; simp at h⟩⟩

theorem gok_nil {X : Cx} {w : World} {S : Nat → Prop} : GOk X w S [] := ⟨fun i g sh h => by simp at h, fun i j g g' s s' h => by simp at h⟩

theorem trim_ok {E : Env} (hP : E.P = Tryz.prog) {L L' : List FV} (hL : trimExt L = some L') : Enters E.P 160 ∧ CSpec E.P 160 ⟨[.str, .str], [.skip, .skip, .str], []⟩ L L' := by
  rw [hP]
  refine ⟨⟨Tryz.f160, Tryz.func160, rfl, by kernel_rfl⟩, fun w S V G hS hTb hT hgo => ?_⟩
  obtain ⟨v1, V1, x1, L1, rfl, rfl, hl1, hf1, v2, V2, x2, L2, rfl, rfl, hl2, hf2, rfl, rfl, rfl⟩ := hT
  unfold trimExt at hL
  split at hL
  · rename_i s c heq
    cases heq
    split at hL
    · rename_i hc
      cases hL
      cases hf1; cases hf2
      have ec : c = txt dgts := by rw [← hc.1, txt_of]
      subst ec
      refine (trim_calls s w hc.2).mono ?_
      rintro e w' ⟨rfl, hB⟩
      exact ⟨S, [], [.string (txt (trimL s.data.toList dgts))], rfl, ⟨_, _, rfl, _, _, rfl, _, [], _, [], rfl, rfl, trivial, .str _, rfl, rfl, rfl⟩, keep_pure hS hTb hB, gok_nil⟩
    · cases hL
  · cases hL

theorem repeat_ok {E : Env} (hP : E.P = Tryz.prog) {L L' : List FV} (hL : repeatExt L = some L') : Enters E.P 155 ∧ CSpec E.P 155 ⟨[.str, .int .i64], [.skip, .skip, .str], []⟩ L L' := by
  rw [hP]
  refine ⟨⟨Tryz.f155, Tryz.func155, rfl, by kernel_rfl⟩, fun w S V G hS hTb hT hgo => ?_⟩
  obtain ⟨v1, V1, x1, L1, rfl, rfl, hl1, hf1, v2, V2, x2, L2, rfl, rfl, hl2, hf2, rfl, rfl, rfl⟩ := hT
  unfold repeatExt at hL
  split at hL
  · rename_i s k heq
    cases heq
    split at hL
    · rename_i hc
      cases hL
      cases hf1; cases hf2
      obtain ⟨h1, h2, h3⟩ := hc
      have ec : s = txt [48] := by rw [← h1, txt_of]
      subst ec
      obtain ⟨m, rfl⟩ : ∃ m : Nat, k = m := ⟨k.toNat, by omega⟩
      refine (repeat_calls m (by omega) w).mono ?_
      rintro e w' ⟨rfl, hB⟩
      exact ⟨S, [], [.string (txt (List.replicate m 48))], rfl, ⟨_, _, rfl, _, _, rfl, _, [], _, [], rfl, rfl, trivial, .str _, rfl, rfl, rfl⟩, keep_pure hS hTb hB, gok_nil⟩
    · cases hL
  · cases hL

theorem format_ok {E : Env} (hP : E.P = Tryz.prog) {L L' : List FV} (hL : formatExt L = some L') : Enters E.P 154 ∧ CSpec E.P 154 ⟨[.int .u64, .int .i64], [.skip, .skip, .str], []⟩ L L' := by
  rw [hP]
  refine ⟨⟨Tryz.f154, Tryz.func154, rfl, by kernel_rfl⟩, fun w S V G hS hTb hT hgo => ?_⟩
  obtain ⟨v1, V1, x1, L1, rfl, rfl, hl1, hf1, v2, V2, x2, L2, rfl, rfl, hl2, hf2, rfl, rfl, rfl⟩ := hT
  unfold formatExt at hL
  split at hL
  · rename_i z k heq
    cases heq
    split at hL
    · rename_i hc
      cases hL
      cases hf1; cases hf2
      obtain ⟨h1, h2, rfl⟩ := hc
      obtain ⟨m, rfl⟩ : ∃ m : Nat, z = m := ⟨z.toNat, by omega⟩
      have h := format_calls m (by omega) w (pow10_tab hTb)
      rw [decDigits_dtext] at h
      refine h.mono ?_
      rintro e w' ⟨rfl, hB⟩
      exact ⟨S, [], [.string (txt (dtext m))], rfl, ⟨_, _, rfl, _, _, rfl, _, [], _, [], rfl, rfl, trivial, .str _, rfl, rfl, rfl⟩, keep_pure hS hTb hB, gok_nil⟩
    · cases hL
  · cases hL

theorem parse_ok {E : Env} (hP : E.P = Tryz.prog) {L L' : List FV} (hL : parseExt L = some L') : Enters E.P 161 ∧ CSpec E.P 161 ⟨[.str, .int .i64, .int .i64], [.skip, .skip, .skip, .int .u64, .raw .nilIface], []⟩ L L' := by
  rw [hP]
  refine ⟨⟨Tryz.f161, Tryz.func161, rfl, by kernel_rfl⟩, fun w S V G hS hTb hT hgo => ?_⟩
  obtain ⟨v1, V1, x1, L1, rfl, rfl, hl1, hf1, v2, V2, x2, L2, rfl, rfl, hl2, hf2, v3, V3, x3, L3, rfl, rfl, hl3, hf3, rfl, rfl, rfl⟩ := hT
  unfold parseExt at hL
  split at hL
  · rename_i s k z heq
    cases heq
    split at hL
    · rename_i hc
      cases hL
      cases hf1; cases hf2; cases hf3
      obtain ⟨h1, h2, h3, rfl, rfl⟩ := hc
      have h := parse_calls s.data.toList h1 h2 (List.all_eq_true.1 h3) w
      rw [txt_of] at h
      refine h.mono ?_
      rintro e w' ⟨rfl, hB⟩
      exact ⟨S, [], [.int .u64 (vD s.data.toList : Int), .nilIface], rfl, ⟨_, _, rfl, _, _, rfl, _, _, rfl, _, _, _, _, rfl, rfl, rfl, .int _ _, _, [], _, [], rfl, rfl, ⟨rfl, rfl⟩, .raw _, rfl, rfl, rfl⟩, keep_pure hS hTb hB, gok_nil⟩
    · cases hL
  · cases hL

theorem idx_ok {E : Env} (hP : E.P = Tryz.prog) {L L' : List FV} (hL : idxExt L = some L') : Enters E.P 192 ∧ CSpec E.P 192 ⟨[.str, .int .u8], [.skip, .skip, .int .i64], []⟩ L L' := by
  rw [hP]
  refine ⟨⟨Tryz.f192, Tryz.func192, rfl, by kernel_rfl⟩, fun w S V G hS hTb hT hgo => ?_⟩
  obtain ⟨v1, V1, x1, L1, rfl, rfl, hl1, hf1, v2, V2, x2, L2, rfl, rfl, hl2, hf2, rfl, rfl, rfl⟩ := hT
  unfold idxExt at hL
  split at hL
  · rename_i s c heq
    cases heq
    cases hL
    cases hf1; cases hf2
    have h := Any.stringslite_IndexByte Tryz.lIndexByte s c w
    rw [indexByte_ix] at h
    change Calls Tryz.prog 192 _ _ (fun e w' => e = .returned (.int .i64 (ixB s.data.toList c.toNat.toUInt8)) ∧ w' = w) at h
    refine h.mono ?_
    rintro e w' ⟨rfl, rfl⟩
    exact ⟨S, [], [.int .i64 (ixB s.data.toList c.toNat.toUInt8)], rfl, ⟨_, _, rfl, _, _, rfl, _, [], _, [], rfl, rfl, rfl, .int _ _, rfl, rfl, rfl⟩, keep_pure hS hTb (Below.refl _ _), gok_nil⟩
  · cases hL

end Rf
end

section
/- strings.Join at no separator: texts, one behind the other. -/
set_option linter.unusedSimpArgs false
set_option linter.unusedVariables false
namespace Rf
open Go Go.Proofs Go.Shelf Go.RowKit Go.Sort Go.Lib

/-- the first so many, one behind the other -/
def jn (ps : List ByteArray) (k : Nat) : List UInt8 := ((ps.take k).map fun s => s.data.toList).flatten

theorem jn_succ {ps : List ByteArray} {k : Nat} (h : k < ps.length) : jn ps (k + 1) = jn ps k ++ ps[k].data.toList := by
  unfold jn
  rw [List.take_add_one, List.getElem?_eq_getElem h, Option.toList_some, List.map_append, List.flatten_append, List.map_cons, List.map_nil, List.flatten_cons, List.flatten_nil, List.append_nil]
theorem jn_len {ps : List ByteArray} {k : Nat} (h : k < ps.length) : (jn ps (k + 1)).length = (jn ps k).length + ps[k].size := by
  rw [jn_succ h, List.length_append, Array.length_toList]; rfl
theorem jn_all (ps : List ByteArray) : jn ps ps.length = (ps.map fun s => s.data.toList).flatten := by unfold jn; rw [List.take_length]
theorem jn_le {ps : List ByteArray} : ∀ {m k : Nat}, k ≤ m → m ≤ ps.length → (jn ps k).length ≤ (jn ps m).length := by
  intro m
  induction m with
  | zero => intro k hk _; have : k = 0 := by omega
            subst this; exact Nat.le_refl _
  | succ m ih =>
    intro k hk hm
    rcases Nat.lt_or_ge k (m + 1) with h | h
    · have := ih (k := k) (by omega) (by omega)
      rw [jn_len (by omega)]; omega
    · have : k = m + 1 := by omega
      subst this; exact Nat.le_refl _

set_option maxRecDepth 100000 in
set_option maxHeartbeats 4000000 in
theorem join_main (b o c : Nat) (ps : List ByteArray) (w : World) (h2 : 2 ≤ ps.length) (hcap : ps.length ≤ c) (hl : ps.length ≤ 1099511627776) (ht : (jn ps ps.length).length ≤ 1099511627776)
    (hc : Aside (∀ k x, ps[k]? = some x → ∀ W : World, Below w.heap.size w W → W.cell? ⟨b, o + k, none⟩ = some (.string x))) :
    Calls Tryz.prog 157 #[.slice (some ⟨b, o, none⟩) ps.length c, .string { data := #[] }] w fun e w' => e = .returned (.string (txt (jn ps ps.length))) ∧ Below w.heap.size w w' := by
  have hne0 : ¬ (ps.length : Int) = 0 := by omega
  have hne1 : ¬ (ps.length : Int) = 1 := by omega
  go_enter Tryz.func157, Tryz.ntmps157
  go_wp2
  go_loopw [5, 41] (fun n i W => Below w.heap.size w W ∧ ∃ k : Nat, k ≤ ps.length ∧ i = .int .i64 k ∧ n = .int .i64 ((jn ps k).length : Nat)) (fun n i _ => ps.length - (RowKit.intOf i).toNat)
  case atStart => exact ⟨Below.refl _ _, 0, Nat.zero_le _, rfl, rfl⟩
  case round =>
    obtain ⟨hB, k, hk, rfl, rfl⟩ := hrel
    by_cases hlt : k < ps.length
    · have hcell := hc.out k ps[k] (List.getElem?_eq_getElem hlt) wr hB
      have hi : (k : Int) < (ps.length : Int) := by omega
      have hjl := jn_len hlt
      have hjt := jn_le (ps := ps) (m := ps.length) (k := k + 1) (by omega) (Nat.le_refl _)
      have hsz : ps[k].size ≤ 1099511627776 := by omega
      have hjk : (jn ps k).length ≤ 1099511627776 := by omega
      have HJ : Aside ((jn ps (k + 1)).length = (jn ps k).length + ps[k].size) := hjl
      have hgt : ¬ ((ps[k].size : Int) > 9223372036854775807 - ((jn ps k).length : Int)) := by omega
      clear hjl hjt
      generalize ps[k] = x at *
      generalize (jn ps k).length = J at *
      go_wp2
      go_roundw
      case rel => exact ⟨⟨hB.os, hB.tape, hB.output, hB.size, hB.block⟩, k + 1, by omega, by go_num, by rw [HJ.out]; go_num⟩
      case measure => simp [RowKit.intOf]; omega
    · have : k = ps.length := by omega
      subst this
      have hi : ¬ (ps.length : Int) < (ps.length : Int) := by omega
      obtain ⟨N, hN⟩ : ∃ N, (jn ps ps.length).length = N := ⟨_, rfl⟩
      rw [hN] at ht
      have HN : Aside ((jn ps ps.length).length = N) := hN
      rw [hN]
      clear hN
      have b0 : Below wr.heap.size wr (wr.alloc (.cells #[.pointer none, .slice none 0 0] 243)) := (Below.refl _ wr).alloc (Nat.le_refl _) _
      have cG := Any.Builder_Grow_fresh { Tryz.lRepeat with } Tryz.xRepeat wr.heap.size wr.heap.size N (wr.alloc (.cells #[.pointer none, .slice none 0 0] 243)) (Nat.le_refl _) (heap_alloc_new wr _) b0.size (by omega)
      have hB' : Aside (Below w.heap.size w wr) := hB
      clear hB
      go_wp2_with (go_at_call 188; go_fit cG; rintro e W1 ⟨rfl, h1, b1⟩; refine Hid.out ?_)
      refine Lib.hid ?_
      clear cG
      have b01 : Below wr.heap.size wr W1 := b0.trans b1
      have bw1 : Below w.heap.size w W1 := hB'.out.trans (b01.mono hB'.out.size)
      have hz : 0 < ps.length := by omega
      have hcell0 := hc.out 0 ps[0] (List.getElem?_eq_getElem hz) W1 bw1
      rw [Nat.add_zero] at hcell0
      have hj1 : (jn ps 1).length = ps[0].size := by rw [jn_len hz]; simp [jn]
      have hj1d : jn ps 1 = ps[0].data.toList := by rw [jn_succ hz]; simp [jn]
      have hj1N := jn_le (ps := ps) (m := ps.length) (k := 1) (by omega) (Nat.le_refl _)
      rw [HN.out] at hj1N
      have cW := Any.Builder_WriteString_f { Tryz.lRepeat with } Tryz.xRepeat wr.heap.size wr.heap.size [] ps[0] W1 (Lib.IsBuilderF.of (Or.inr h1)) (by simp; omega) b01.size
      have HJ1 : Aside (jn ps 1 = ps[0].data.toList) := hj1d
      have HBW1 : Aside (Below w.heap.size w W1) := bw1
      have HB01 : Aside (Below wr.heap.size wr W1) := b01
      clear hj1 hj1d hj1N bw1 b0 b1 b01 h1
      generalize ps[0] = x at *
      have hpos : (0 : Int) < (ps.length : Int) := by omega
      go_wp2_with (go_at_call 189; go_fit cW; rintro e W2 ⟨rfl, h2, b2⟩; refine Hid.out ?_)
      refine Lib.hid ?_
      clear cW
      have h2' : Lib.IsBuilderF 243 5 wr.heap.size wr.heap.size (Lib.byteCells (jn ps 1)) W2 := by
        rw [List.nil_append, Lib.strCells_eq] at h2
        rw [HJ1.out]
        exact Or.inr h2
      have HB02 : Aside (Below wr.heap.size wr W2) := HB01.out.trans b2
      have HBW2 : Aside (Below w.heap.size w W2) := HBW1.out.trans (b2.mono hB'.out.size)
      clear h2 b2
      have hlen1 : (1 : Int) ≤ (ps.length : Int) := by omega
      have hc1 : ¬ c = 1 := by omega
      have hc2 : ¬ 1 = c := by omega
      have hc3 : ((c : Int) == 1) = false := by rw [beq_eq_false_iff_ne]; omega
      go_wp2
      go_loopw [65] (fun i W => Below w.heap.size w W ∧ Below wr.heap.size wr W ∧ ∃ k : Nat, k + 1 ≤ ps.length ∧ i = .int .i64 k ∧ Lib.IsBuilderF 243 5 wr.heap.size wr.heap.size (Lib.byteCells (jn ps (k + 1))) W) (fun i _ => ps.length - 1 - (RowKit.intOf i).toNat)
      case atStart => exact ⟨HBW2.out, HB02.out, 0, by omega, rfl, h2'⟩
      case round =>
        obtain ⟨hBw, hBr, k, hk1, rfl, hbld⟩ := hrel
        have hsize := hBr.size
        by_cases hlt2 : k + 1 < ps.length
        · have hcell := hc.out (k + 1) ps[k + 1] (List.getElem?_eq_getElem hlt2) wr hBw
          rw [show o + (k + 1) = o + 1 + k by omega] at hcell
          have hi2 : (k : Int) < (ps.length : Int) - 1 := by omega
          have hjl := jn_len hlt2
          have hjs := jn_succ hlt2
          have hjN := jn_le (ps := ps) (m := ps.length) (k := k + 1 + 1) (by omega) (Nat.le_refl _)
          rw [HN.out] at hjN
          have e0 : Lib.byteCells (jn ps (k + 1)) ++ Lib.strCells { data := #[] } = Lib.byteCells (jn ps (k + 1)) := by simp [Lib.strCells]
          have cW1 := Any.Builder_WriteString_f { Tryz.lRepeat with } Tryz.xRepeat _ _ _ { data := #[] } wr hbld (by rw [Lib.byteCells_length]; show _ + 0 ≤ _; omega) hsize
          rw [e0] at cW1
          have cW2 := fun (B : Nat) (W : World) (hb : Lib.IsBuilderF 243 5 B B (Lib.byteCells (jn ps (k + 1))) W) (hsz : B ≤ W.heap.size) => Any.Builder_WriteString_f { Tryz.lRepeat with } Tryz.xRepeat B B _ ps[k + 1] W hb (by rw [Lib.byteCells_length]; omega) hsz
          simp only [Lib.strCells_eq, ← Lib.byteCells_append, ← hjs] at cW2
          have HJL : Aside (k + 1 < ps.length) := hlt2
          have HBw : Aside (Below w.heap.size w wr) := hBw
          have hwm := hB'.out.size
          clear hjl hjs hjN e0 hBw
          generalize ps[k + 1] = y at *
          go_wp2_with (go_at_call 189; go_fit cW1; rintro e W3 ⟨rfl, h3, b3⟩; refine Hid.out ?_)
          refine Lib.hid ?_
          have cW3 := cW2 _ W3 (Or.inr h3) (Nat.le_trans hsize b3.size)
          clear cW1 cW2
          go_wp2_with (go_at_call 189; go_fit cW3; rintro e W4 ⟨rfl, h4, b4⟩; refine Hid.out ?_)
          refine Lib.hid ?_
          clear cW3
          have hb34 := b3.trans b4
          go_wp2
          go_roundw
          case rel => exact ⟨HBw.out.trans (hb34.mono hwm), hBr.trans hb34, k + 1, by have := HJL.out; omega, by go_num, Or.inr h4⟩
          case measure => have := HJL.out; simp [RowKit.intOf]; omega
        · have : k + 1 = ps.length := by omega
          have hi2 : ¬ (k : Int) < (ps.length : Int) - 1 := by omega
          rw [this] at hbld
          have cStr := Any.Builder_String_any_f { Tryz.lRepeat with } Tryz.xRepeat _ _ (jn ps ps.length) wr hbld hsize
          have hwm := hB'.out.size
          go_wp2_with (go_at_call 191; go_fit cStr; rintro e W5 ⟨rfl, h5, b5⟩; refine Hid.out ?_)
          refine Lib.hid ?_
          go_wp2
          go_ret
          exact ⟨rfl, hBw.trans (b5.mono hwm)⟩

end Rf
end
end

section
/- What may be an account's name: both makes, over whatever bytes. -/
set_option linter.unusedSimpArgs false
set_option linter.unusedVariables false
namespace Rf
open Go Go.Proofs Go.RowKit

theorem width_pos (s : ByteArray) (pos : Nat) (h : pos < s.size) : 1 ≤ (Utf8.decode s pos).2 := by
  by_cases ha : (s[pos]'h).toNat < 128
  · rw [decode_ascii s pos h ha]
    exact Nat.le_refl _
  · exact (decode_high s pos h (by omega)).2

theorem acct_end (s : ByteArray) (b pos n : Nat) (h : ¬ pos < s.size) : acctF s b pos n = (decide (1 ≤ n) && decide (n ≤ 24)) := by
  cases b with
  | zero => rfl
  | succ b => simp [acctF, h]

theorem wrap_n {n : Nat} (h : n ≤ 1099511627777) : IntKind.wrap .i64 ((n : Int) + 1) = ((n + 1 : Nat) : Int) := wrap_i64_nat (x := n + 1) (by omega)

theorem rune_yes {r : Nat} (h : (97 ≤ r ∧ r ≤ 122) ∨ (945 ≤ r ∧ r ≤ 969) ∨ (48 ≤ r ∧ r ≤ 57) ∨ r = 45) : runeOk r = true := by
  unfold runeOk
  simp only [Bool.or_eq_true, Bool.and_eq_true, decide_eq_true_eq]
  omega
theorem rune_no {r : Nat} (h : ¬ ((97 ≤ r ∧ r ≤ 122) ∨ (945 ≤ r ∧ r ≤ 969) ∨ (48 ≤ r ∧ r ≤ 57) ∨ r = 45)) : runeOk r = false := by
  cases hr : runeOk r with
  | false => rfl
  | true =>
    unfold runeOk at hr
    simp only [Bool.or_eq_true, Bool.and_eq_true, decide_eq_true_eq] at hr
    omega

set_option maxRecDepth 1000000 in
set_option maxHeartbeats 4000000 in
theorem acct_walk1 (s : ByteArray) (hs : s.size ≤ 1099511627776) (w : World) :
    Calls Tryz.prog 35 #[.string s] w fun e w' => e = .returned (.bool (acct s)) ∧ ∃ pos, w' = w.iter s pos := by
  go_enter Tryz.func35, Tryz.ntmps35
  go_wp2
  go_loopw [3] (fun n w' => ∃ (pos b k : Nat), w' = w.iter s pos ∧ n = .int .i64 (k : Int) ∧ acctF s b pos k = acct s ∧ s.size ≤ pos + b ∧ k ≤ pos) (fun _ w' => s.size - w'.iterPos w.heap.size)
  case atStart => exact ⟨0, s.size, 0, rfl, rfl, rfl, by omega, by omega⟩
  case round =>
    obtain ⟨pos, b, k, rfl, rfl, hc, hb, hk⟩ := hrel
    by_cases hp : pos < s.size
    · have hnx : ∀ ty, (Instr.next (.pointer (some ⟨w.heap.size, 0, none⟩)) true ty).run Tryz.prog (w.iter s pos) = _ := fun ty => run_next_any w s pos ty hp
      have hwd := width_pos s pos hp
      have hkw : IntKind.wrap .i64 ((k : Int) + 1) = ((k + 1 : Nat) : Int) := wrap_n (by omega)
      obtain ⟨b, rfl⟩ : ∃ c, b = c + 1 := ⟨b - 1, by omega⟩
      have hyes : (97 ≤ (Utf8.decode s pos).1 ∧ (Utf8.decode s pos).1 ≤ 122) ∨ (945 ≤ (Utf8.decode s pos).1 ∧ (Utf8.decode s pos).1 ≤ 969) ∨ (48 ≤ (Utf8.decode s pos).1 ∧ (Utf8.decode s pos).1 ≤ 57) ∨ (Utf8.decode s pos).1 = 45 →
          (∃ pos_1 b k_1 : Nat, w.iter s (pos + (Utf8.decode s pos).2) = w.iter s pos_1 ∧ Value.int .i64 ((k : Int) + 1) = Value.int .i64 (k_1 : Int) ∧ acctF s b pos_1 k_1 = acct s ∧ s.size ≤ pos_1 + b ∧ k_1 ≤ pos_1) ∧
          s.size - (w.iter s (pos + (Utf8.decode s pos).2)).iterPos w.heap.size < s.size - (w.iter s pos).iterPos w.heap.size := fun h => by
        refine ⟨⟨pos + (Utf8.decode s pos).2, b, k + 1, rfl, rfl, ?_, by omega, by omega⟩, ?_⟩
        · rw [← hc, acctF, if_pos hp, if_pos (rune_yes h)]
        · simp only [World.iterPos_iter]; omega
      have hno : ¬ ((97 ≤ (Utf8.decode s pos).1 ∧ (Utf8.decode s pos).1 ≤ 122) ∨ (945 ≤ (Utf8.decode s pos).1 ∧ (Utf8.decode s pos).1 ≤ 969) ∨ (48 ≤ (Utf8.decode s pos).1 ∧ (Utf8.decode s pos).1 ≤ 57) ∨ (Utf8.decode s pos).1 = 45) → acct s = false := fun h => by
        rw [← hc, acctF, if_pos hp, rune_no h]; rfl
      have hq1 : (((Utf8.decode s pos).1 : Int) == 45) = true → (Utf8.decode s pos).1 = 45 := fun h => by have := eq_of_beq h; omega
      have hq2 : (((Utf8.decode s pos).1 : Int) == 45) = false → (Utf8.decode s pos).1 ≠ 45 := fun h e => by rw [e] at h; cases h
      clear hc
      go_wp2
      all_goals first
        | (refine hyes ?_; first | omega | (have := hq1 (by assumption); omega))
        | (have hq := hq2 (by assumption); have hf := hno (by omega); go_ret; exact ⟨by rw [hf]; rfl, _, rfl⟩)
        | (have hf := hno (by omega); go_ret; exact ⟨by rw [hf]; rfl, _, rfl⟩)
    · have hnx : ∀ ty, (Instr.next (.pointer (some ⟨w.heap.size, 0, none⟩)) true ty).run Tryz.prog (w.iter s pos) = _ := fun ty => run_next_end w s pos ty hp
      rw [acct_end s b pos k hp] at hc
      go_wp2
      all_goals (go_ret; refine ⟨?_, _, rfl⟩; rw [← hc]; first | (rw [show decide (1 ≤ k) = true from decide_eq_true (by omega), Bool.true_and]; show Ending.returned (Value.bool (decide ((k : Int) ≤ 24))) = _; congr 2; exact decide_eq_decide.2 (by omega)) | (rw [show decide (1 ≤ k) = false from decide_eq_false (by omega)]; rfl))

set_option maxRecDepth 1000000 in
set_option maxHeartbeats 4000000 in
theorem acct_walk2 (s : ByteArray) (hs : s.size ≤ 1099511627776) (w : World) :
    Calls Tryz.prog 25 #[.string s] w fun e w' => e = .returned (.bool (acct s)) ∧ ∃ pos, w' = w.iter s pos := by
  go_enter Tryz.func25, Tryz.ntmps25
  go_wp2
  go_loopw [3] (fun n w' => ∃ (pos b k : Nat), w' = w.iter s pos ∧ n = .int .i64 (k : Int) ∧ acctF s b pos k = acct s ∧ s.size ≤ pos + b ∧ k ≤ pos) (fun _ w' => s.size - w'.iterPos w.heap.size)
  case atStart => exact ⟨0, s.size, 0, rfl, rfl, rfl, by omega, by omega⟩
  case round =>
    obtain ⟨pos, b, k, rfl, rfl, hc, hb, hk⟩ := hrel
    by_cases hp : pos < s.size
    · have hnx : ∀ ty, (Instr.next (.pointer (some ⟨w.heap.size, 0, none⟩)) true ty).run Tryz.prog (w.iter s pos) = _ := fun ty => run_next_any w s pos ty hp
      have hwd := width_pos s pos hp
      have hkw : IntKind.wrap .i64 ((k : Int) + 1) = ((k + 1 : Nat) : Int) := wrap_n (by omega)
      obtain ⟨b, rfl⟩ : ∃ c, b = c + 1 := ⟨b - 1, by omega⟩
      have hyes : (97 ≤ (Utf8.decode s pos).1 ∧ (Utf8.decode s pos).1 ≤ 122) ∨ (945 ≤ (Utf8.decode s pos).1 ∧ (Utf8.decode s pos).1 ≤ 969) ∨ (48 ≤ (Utf8.decode s pos).1 ∧ (Utf8.decode s pos).1 ≤ 57) ∨ (Utf8.decode s pos).1 = 45 →
          (∃ pos_1 b k_1 : Nat, w.iter s (pos + (Utf8.decode s pos).2) = w.iter s pos_1 ∧ Value.int .i64 ((k : Int) + 1) = Value.int .i64 (k_1 : Int) ∧ acctF s b pos_1 k_1 = acct s ∧ s.size ≤ pos_1 + b ∧ k_1 ≤ pos_1) ∧
          s.size - (w.iter s (pos + (Utf8.decode s pos).2)).iterPos w.heap.size < s.size - (w.iter s pos).iterPos w.heap.size := fun h => by
        refine ⟨⟨pos + (Utf8.decode s pos).2, b, k + 1, rfl, rfl, ?_, by omega, by omega⟩, ?_⟩
        · rw [← hc, acctF, if_pos hp, if_pos (rune_yes h)]
        · simp only [World.iterPos_iter]; omega
      have hno : ¬ ((97 ≤ (Utf8.decode s pos).1 ∧ (Utf8.decode s pos).1 ≤ 122) ∨ (945 ≤ (Utf8.decode s pos).1 ∧ (Utf8.decode s pos).1 ≤ 969) ∨ (48 ≤ (Utf8.decode s pos).1 ∧ (Utf8.decode s pos).1 ≤ 57) ∨ (Utf8.decode s pos).1 = 45) → acct s = false := fun h => by
        rw [← hc, acctF, if_pos hp, rune_no h]; rfl
      have hq1 : (((Utf8.decode s pos).1 : Int) == 45) = true → (Utf8.decode s pos).1 = 45 := fun h => by have := eq_of_beq h; omega
      have hq2 : (((Utf8.decode s pos).1 : Int) == 45) = false → (Utf8.decode s pos).1 ≠ 45 := fun h e => by rw [e] at h; cases h
      clear hc
      go_wp2
      all_goals clear hq1 hq2
      all_goals try simp only [Bool.not_eq_true', Bool.not_eq_false', decide_eq_true_eq, decide_eq_false_iff_not, beq_eq_false_iff_ne, beq_iff_eq, ne_eq] at *
      all_goals first
        | (refine hyes ?_; omega)
        | (have hf := hno (by omega); go_ret; exact ⟨by rw [hf]; rfl, _, rfl⟩)
    · have hnx : ∀ ty, (Instr.next (.pointer (some ⟨w.heap.size, 0, none⟩)) true ty).run Tryz.prog (w.iter s pos) = _ := fun ty => run_next_end w s pos ty hp
      rw [acct_end s b pos k hp] at hc
      go_wp2
      all_goals (go_ret; refine ⟨?_, _, rfl⟩; rw [← hc]; first | (rw [show decide (1 ≤ k) = true from decide_eq_true (by omega), Bool.true_and]; show Ending.returned (Value.bool (decide ((k : Int) ≤ 24))) = _; congr 2; exact decide_eq_decide.2 (by omega)) | (rw [show decide (1 ≤ k) = false from decide_eq_false (by omega)]; rfl))

theorem below_iter (w : World) (s : ByteArray) (pos : Nat) : Below w.heap.size w (w.iter s pos) := (Below.refl _ w).alloc (Nat.le_refl _) _

theorem acct_ok {E : Env} (hP : E.P = Tryz.prog) {f : FuncId} (hen : Enters Tryz.prog f) (hw : ∀ s : ByteArray, s.size ≤ 1099511627776 → ∀ w : World, Calls Tryz.prog f #[.string s] w fun e w' => e = .returned (.bool (acct s)) ∧ ∃ pos, w' = w.iter s pos)
    {L L' : List FV} (hL : acctExt L = some L') : Enters E.P f ∧ CSpec E.P f ⟨[.str], [.skip, .bool], []⟩ L L' := by
  rw [hP]
  refine ⟨hen, fun w S V G hS hTb hT hgo => ?_⟩
  obtain ⟨v1, V1, x1, L1, rfl, rfl, hl1, hf1, rfl, rfl, rfl⟩ := hT
  unfold acctExt at hL
  split at hL
  · rename_i s heq
    cases heq
    split at hL
    · rename_i hs
      cases hL
      cases hf1
      refine (hw s hs w).mono ?_
      rintro e w' ⟨rfl, pos, rfl⟩
      have hB := below_iter w s pos
      exact ⟨S, [], [.bool (acct s)], rfl, ⟨_, _, rfl, _, [], _, [], rfl, rfl, trivial, .bool _, rfl, rfl, rfl⟩, ⟨hB.size, fun b h _ => hB.block b h, hB.os, hB.tape, hB.output, fun b h => Nat.lt_of_lt_of_le (hS b h) hB.size, fun b h => h, fun b h => .inl h, ⟨hTb, fun b hb => by obtain ⟨i, g, sh, h, _⟩ := hb; simp at h⟩⟩, ⟨fun i g sh h => by simp at h, fun i j g g' s s' h => by simp at h⟩⟩
    · cases hL
  · cases hL

theorem acct1_ok {E : Env} (hP : E.P = Tryz.prog) {L L' : List FV} (hL : acctExt L = some L') : Enters E.P 35 ∧ CSpec E.P 35 ⟨[.str], [.skip, .bool], []⟩ L L' :=
  acct_ok hP ⟨Tryz.f35, Tryz.func35, rfl, by kernel_rfl⟩ acct_walk1 hL
theorem acct2_ok {E : Env} (hP : E.P = Tryz.prog) {L L' : List FV} (hL : acctExt L = some L') : Enters E.P 25 ∧ CSpec E.P 25 ⟨[.str], [.skip, .bool], []⟩ L L' :=
  acct_ok hP ⟨Tryz.f25, Tryz.func25, rfl, by kernel_rfl⟩ acct_walk2 hL

end Rf
end

section
/- The library's contracts as the interpreter's: Clone, Join; all together. -/
set_option linter.unusedSimpArgs false
set_option linter.unusedVariables false
namespace Rf
open Go Go.Proofs Go.Shelf Go.RowKit Go.Sort Go.Lib

theorem words_info : (Tryz.prog.info? 198).map (fun i => (i.zero, i.size, i.bytes)) = some (some (.int .u32 0), 1, 4) := by kernel_rfl

set_option maxHeartbeats 2000000 in
set_option maxRecDepth 100000 in
theorem clone_walk (ad : Addr) (n c : Nat) (news : List Value) (w : World) (hl : news.length = n) (h1 : ∀ u, u ∈ news → u.oneCell' = true) (hbig : n * 4 ≤ 140737488355328) (hc : ∀ j u, news[j]? = some u → w.cell? (ad.add j) = some u) :
    Calls Tryz.prog 148 #[.slice (some ad) n c] w fun e w' => ∃ v', e = .returned v' ∧ w'.ownsRow w.heap.size 198 1 v' n news ∧ Below w.heap.size w w' := by
  obtain ⟨i0, hi, hz0, hz1, hz2⟩ := info_parts words_info
  have q25 : ∀ (w : World) (a : Option Addr) (n c n' c' : Nat), (Go.binOp .eql 90 (.slice a n c) (.slice none n' c')).run Tryz.prog w = .ok (.bool a.isNone) w := fun w a n c n' c' => Lib.run_eql_slice_nil w _ _ a n c n' c' Tryz.underlying90
  have u25 : ∀ w, Sem.run Tryz.prog (underlying 90) w = .ok (TypeDesc.slice 198) w := run_underlying Tryz.underlying90
  have A : Aside (∀ j u, news[j]? = some u → w.cell? (ad.add j) = some u) := hc
  have A1 : Aside (∀ u, u ∈ news → u.oneCell' = true) := h1
  clear hc h1
  go_enter Tryz.func148, Tryz.ntmps148
  go_wp2_with (at_builtin; refine wpList_append_own _ rfl _ _ 90 rfl w.heap.size 198 i0 (.int .u32 0) 1 4 Tryz.underlying90 hi hz0 hz1 hz2 rfl (by decide) _ _ _ rfl (World.ownsRow_made w #[] 0 (Nat.le_refl _) (Nat.zero_le _) rfl) ad n c news rfl ?qc1 ?qc2 ?qc3 ?qc4 ?qc5 ?qc6 ?_)
  case qc1 => omega
  case qc2 =>
    intro j u hj
    refine Lib.cell?_alloc_some _ ?_
    exact A.out j u hj
  case qc3 => exact A1.out
  case qc4 => unfold maxLen; omega
  case qc5 => omega
  case qc6 => simp
  intro v' w1 hown hgrow hnil
  go_wp2
  go_ret
  refine ⟨v', rfl, by simpa using hown, ?_⟩
  exact ((Below.refl _ w).alloc (Nat.le_refl _) _).grown hgrow (by simp) (by intro k hk; simp [Value.ownBlock] at hk; omega)

theorem one_flat {w : World} {S : Nat → Prop} {c : FV} {v : Value} (h : FRep w S c v) (hf : c.flat = true) : v.oneCell' = true := by
  cases h with
  | int _ _ => rfl
  | bool _ => rfl
  | str _ => rfl
  | raw v => exact hf
  | agg _ _ _ _ => simp [FV.flat] at hf
  | list _ _ _ _ _ _ _ _ _ _ _ => rfl

theorem clone_ok {E : Env} (hP : E.P = Tryz.prog) {L L' : List FV} (hL : cloneExt L = some L') : Enters E.P 148 ∧ CSpec E.P 148 ⟨[.lst 1], [.skip, .own 1], []⟩ L L' := by
  rw [hP]
  refine ⟨⟨Tryz.f148, Tryz.func148, rfl, by kernel_rfl⟩, fun w S V G hS hTb hT hgo => ?_⟩
  obtain ⟨v, V', x, L0, rfl, rfl, hlf, hfr, rfl, rfl, rfl⟩ := hT
  unfold cloneExt at hL
  split at hL
  · rename_i xs heq
    cases heq
    split at hL
    · rename_i hlen
      cases hL
      obtain ⟨a, cap, b, o, rfl, hc, ha, hel, hrow⟩ := FRep.list_iff.1 hfr
      obtain ⟨rfl, hSb⟩ := ha hlen.1
      have cell : ∀ i x, xs[i]? = some x → ∃ c u, x.cells = [c] ∧ cellAt w b (o + i) = some u ∧ FRep w S c u ∧ u.oneCell' = true := fun i x hi => by
        have he := hel x (List.mem_of_getElem? hi)
        obtain ⟨c, hcs⟩ : ∃ c, x.cells = [c] := List.length_eq_one_iff.1 he.1
        obtain ⟨u, h1, h2⟩ := hrow i 0 x c hi (by rw [hcs]; rfl)
        exact ⟨c, u, hcs, by simpa using h1, h2, one_flat h2 (he.2 c (by rw [hcs]; simp))⟩
      have hnews : ∀ j u, ((List.range xs.length).map fun j => (cellAt w b (o + j)).getD undef)[j]? = some u → j < xs.length ∧ cellAt w b (o + j) = some u := fun j u hj => by
        rw [List.getElem?_map] at hj
        have hjl : j < xs.length := by
          cases hr : (List.range xs.length)[j]? with
          | none => rw [hr] at hj; simp at hj
          | some k => have := (List.getElem?_eq_some_iff.1 hr).1; simpa using this
        rw [List.getElem?_range hjl] at hj
        obtain ⟨c, u', _, h2, _⟩ := cell j xs[j] (List.getElem?_eq_getElem hjl)
        simp only [Option.map_some, h2, Option.getD_some, Option.some.injEq] at hj
        rw [hj] at h2
        exact ⟨hjl, h2⟩
      refine (clone_walk ⟨b, o, none⟩ xs.length cap ((List.range xs.length).map fun j => (cellAt w b (o + j)).getD undef) w (by simp) (fun u hu => ?_) (by have := hlen.2.1; omega) (fun j u hj => ?_)).mono ?_
      · obtain ⟨j, hj⟩ := List.mem_iff_getElem?.1 hu
        obtain ⟨hjl, h2⟩ := hnews j u hj
        obtain ⟨c, u', _, h3, _, h4⟩ := cell j xs[j] (List.getElem?_eq_getElem hjl)
        rw [h2] at h3; cases h3; exact h4
      · rw [addr_add]; exact (hnews j u hj).2
      · rintro e w' ⟨v', rfl, hown, hB⟩
        have hlt := hown.lt
        rcases hown.2 with ⟨rfl, h0⟩ | ⟨g, cap', cur, rfl, hb, hh, hcc, hm, hcs, ht⟩
        · exact absurd (List.eq_nil_of_length_eq_zero h0) hlen.1
        have hg := hlt g rfl
        refine ⟨S, [(⟨g, 0, cap', false⟩, (some (1, xs.length), none))], [.slice (some ⟨g, 0, none⟩) xs.length cap'], rfl, ⟨_, _, rfl, ⟨g, 0, cap', false⟩, xs, [], [], rfl, rfl, ⟨hcc, ?_⟩, rfl, rfl, rfl⟩, keep_pure hS hTb hB, ⟨fun i g' sh h hn => ?_, fun i j g1 g2 s s' h1 h2 _ _ _ => ?_⟩⟩
        · rw [if_neg (by simp)]
          refine ⟨cur, 198, hh, by show 0 + cap' * 1 ≤ cur.size; omega, hel, fun i j x c hi hj => ?_⟩
          obtain ⟨c', u, hcs', h2, h3, _⟩ := cell i x hi
          rw [hcs'] at hj
          obtain ⟨rfl, rfl⟩ : j = 0 ∧ c = c' := by
            have := (List.getElem?_eq_some_iff.1 hj).1
            have hj0 : j = 0 := by simpa using this
            subst hj0
            exact ⟨rfl, by simpa using hj.symm⟩
          refine ⟨u, ?_, h3.mono (fun b hb => hB.block b (hS b hb)) fun _ h => h⟩
          have hil := (List.getElem?_eq_some_iff.1 hi).1
          rw [cellAt_eq hh]
          have e : (cur.toList.take (xs.length * 1))[i]? = some u := by rw [ht, List.getElem?_map, List.getElem?_range hil]; simp [h2]
          rw [List.getElem?_take, if_pos (by omega)] at e
          simpa using e
        · cases i with
          | zero =>
            simp only [List.getElem?_cons_zero, Option.some.injEq, Prod.mk.injEq] at h
            obtain ⟨rfl, _⟩ := h
            exact ⟨hg.2, fun hs => by
              have h1 := hg.1
              have h2 : g < w.heap.size := hS _ hs
              omega, .inr hg.1⟩
          | succ i => simp at h
        · have e1 := (List.getElem?_eq_some_iff.1 h1).1
          have e2 := (List.getElem?_eq_some_iff.1 h2).1
          simp only [List.length_cons, List.length_nil] at e1 e2
          omega
    · cases hL
  · cases hL

set_option maxRecDepth 100000 in
set_option maxHeartbeats 1000000 in
theorem join_zero (a : Option Addr) (c : Nat) (w : World) : Calls Tryz.prog 157 #[.slice a 0 c, .string { data := #[] }] w fun e w' => e = .returned (.string { data := #[] }) ∧ w' = w := by
  go_enter Tryz.func157, Tryz.ntmps157
  go_wp2
  go_ret
  exact ⟨rfl, rfl⟩

set_option maxRecDepth 100000 in
set_option maxHeartbeats 1000000 in
theorem join_one (b o c : Nat) (x : ByteArray) (w : World) (hc : w.cell? ⟨b, o, none⟩ = some (.string x)) : Calls Tryz.prog 157 #[.slice (some ⟨b, o, none⟩) 1 c, .string { data := #[] }] w fun e w' => e = .returned (.string x) ∧ Below w.heap.size w w' := by
  go_enter Tryz.func157, Tryz.ntmps157
  go_wp2
  go_ret
  exact ⟨rfl, Below.refl _ _⟩

def strV : FV → ByteArray
  | .str s => s
  | _ => { data := #[] }

theorem byts_strV {xs : List FV} (h : xs.all strOk = true) : (xs.map strV).map (fun s => s.data.toList) = xs.map byts := by
  rw [List.map_map]
  refine List.map_congr_left fun x hx => ?_
  have := List.all_eq_true.1 h x hx
  cases x <;> first | rfl | (simp [strOk] at this)

theorem join_ok {E : Env} (hP : E.P = Tryz.prog) {L L' : List FV} (hL : joinExt L = some L') : Enters E.P 157 ∧ CSpec E.P 157 ⟨[.lst 1, .str], [.skip, .skip, .str], []⟩ L L' := by
  rw [hP]
  refine ⟨⟨Tryz.f157, Tryz.func157, rfl, by kernel_rfl⟩, fun w S V G hS hTb hT hgo => ?_⟩
  obtain ⟨v1, V1, x1, L1, rfl, rfl, hl1, hf1, v2, V2, x2, L2, rfl, rfl, hl2, hf2, rfl, rfl, rfl⟩ := hT
  unfold joinExt at hL
  split at hL
  · rename_i xs sep heq
    cases heq
    split at hL
    · rename_i hh
      cases hL
      obtain ⟨h0, hall, hlen, htot⟩ := hh
      cases hf2
      obtain ⟨a, cap, b, o, rfl, hc, ha, hel, hrow⟩ := FRep.list_iff.1 hf1
      have es : sep = { data := #[] } := by rw [← txt_of sep, h0]; rfl
      subst es
      have fin : ∀ {w' : World} {l : List UInt8}, l = (xs.map byts).flatten → Below w.heap.size w w' → ∃ S' fin' R, Ending.returned (.string (txt l)) = .returned (resV R) ∧ TRep w' S' [.skip, .skip, .str] ([Value.slice a xs.length cap, .string { data := #[] }] ++ R) [.str (txt (xs.map byts).flatten)] [] fin' ∧ Keep ⟨w, S, Given [], 0, fun _ => none⟩ w' S' ∧ GOk ⟨w, S, Given [], 0, fun _ => none⟩ w' S' fin' := fun {w' l} hl hB => by
        subst hl
        exact ⟨S, [], [.string (txt (xs.map byts).flatten)], rfl, ⟨_, _, rfl, _, _, rfl, _, [], _, [], rfl, rfl, trivial, .str _, rfl, rfl, rfl⟩, keep_pure hS hTb hB, gok_nil⟩
      have cell : ∀ (k : Nat) (x : ByteArray), (xs.map strV)[k]? = some x → cellAt w b (o + k) = some (.string x) := fun k x hk => by
        rw [List.getElem?_map] at hk
        cases hy : xs[k]? with
        | none => rw [hy] at hk; cases hk
        | some y =>
          rw [hy] at hk
          simp only [Option.map_some, Option.some.injEq] at hk
          have hs := List.all_eq_true.1 hall y (List.mem_of_getElem? hy)
          cases y with
          | str s =>
            obtain ⟨u, h1, h2⟩ := hrow k 0 (.str s) (.str s) hy rfl
            cases h2
            rw [Nat.mul_one, Nat.add_zero] at h1
            have : s = x := hk
            subst this
            exact h1
          | _ => simp [strOk] at hs
      match hx : xs with
      | [] =>
        refine (join_zero a cap w).mono ?_
        rintro e w' ⟨rfl, rfl⟩
        exact fin (l := []) rfl (Below.refl _ _)
      | [y] =>
        obtain ⟨rfl, hSb⟩ := ha (by simp)
        refine (join_one b o cap (strV y) w (by have := cell 0 (strV y) rfl; rwa [Nat.add_zero] at this)).mono ?_
        rintro e w' ⟨rfl, hB⟩
        have hs := List.all_eq_true.1 hall y (by simp)
        cases y with
        | str s =>
          have := fin (w' := w') (l := s.data.toList) (by simp [byts]) hB
          rwa [txt_of] at this
        | _ => simp [strOk] at hs
      | y :: z :: r =>
        obtain ⟨rfl, hSb⟩ := ha (by simp)
        have hbl := hS b hSb
        have hj : jn ((y :: z :: r).map strV) ((y :: z :: r).map strV).length = ((y :: z :: r).map byts).flatten := by rw [jn_all, byts_strV hall]
        have h := join_main b o cap ((y :: z :: r).map strV) w (by simp) (by simpa using hc) (by simpa using hlen) (by rw [hj]; exact htot) (fun k x hk W hB => by
          have := cell k x hk
          exact (cellAt_congr (hB.block b hbl) (o + k)).trans this)
        rw [List.length_map] at h
        refine h.mono ?_
        rintro e w' ⟨rfl, hB⟩
        rw [List.length_map] at hj
        exact fin hj hB
    · cases hL
  · cases hL

theorem lookN_cons {α : Type} {k f : Nat} {x g : α} {r : List (Nat × α)} (h : lookN f ((k, x) :: r) = some g) : (f = k ∧ x = g) ∨ lookN f r = some g := by
  unfold lookN at h
  cases hb : Nat.beq k f with
  | true =>
    rw [hb, cond_true, Option.some.injEq] at h
    exact .inl ⟨(Nat.eq_of_beq_eq_true hb).symm, h⟩
  | false => rw [hb, cond_false] at h; exact .inr h

theorem ext_ok : ExtOk En := by
  intro f g i L L' hf hi hL
  have this : extT f = some g := hf
  unfold extT at this
  rcases lookN_cons this with ⟨rfl, rfl⟩ | this
  · rw [show En.fn 148 = some ⟨[.lst 1], [.skip, .own 1], []⟩ by kernel_rfl] at hi
    cases hi
    exact clone_ok rfl hL
  rcases lookN_cons this with ⟨rfl, rfl⟩ | this
  · rw [show En.fn 154 = some ⟨[.int .u64, .int .i64], [.skip, .skip, .str], []⟩ by kernel_rfl] at hi
    cases hi
    exact format_ok rfl hL
  rcases lookN_cons this with ⟨rfl, rfl⟩ | this
  · rw [show En.fn 155 = some ⟨[.str, .int .i64], [.skip, .skip, .str], []⟩ by kernel_rfl] at hi
    cases hi
    exact repeat_ok rfl hL
  rcases lookN_cons this with ⟨rfl, rfl⟩ | this
  · rw [show En.fn 157 = some ⟨[.lst 1, .str], [.skip, .skip, .str], []⟩ by kernel_rfl] at hi
    cases hi
    exact join_ok rfl hL
  rcases lookN_cons this with ⟨rfl, rfl⟩ | this
  · rw [show En.fn 160 = some ⟨[.str, .str], [.skip, .skip, .str], []⟩ by kernel_rfl] at hi
    cases hi
    exact trim_ok rfl hL
  rcases lookN_cons this with ⟨rfl, rfl⟩ | this
  · rw [show En.fn 161 = some ⟨[.str, .int .i64, .int .i64], [.skip, .skip, .skip, .int .u64, .raw .nilIface], []⟩ by kernel_rfl] at hi
    cases hi
    exact parse_ok rfl hL
  rcases lookN_cons this with ⟨rfl, rfl⟩ | this
  · rw [show En.fn 192 = some ⟨[.str, .int .u8], [.skip, .skip, .int .i64], []⟩ by kernel_rfl] at hi
    cases hi
    exact idx_ok rfl hL
  rcases lookN_cons this with ⟨rfl, rfl⟩ | this
  · rw [show En.fn 35 = some ⟨[.str], [.skip, .bool], []⟩ by kernel_rfl] at hi
    cases hi
    exact acct1_ok rfl hL
  rcases lookN_cons this with ⟨rfl, rfl⟩ | this
  · rw [show En.fn 25 = some ⟨[.str], [.skip, .bool], []⟩ by kernel_rfl] at hi
    cases hi
    exact acct2_ok rfl hL
  cases this

/-! ### the table of the powers of ten, in a world that lays it -/
def tabG : Nat := 1
def tabT : Nat := 290
def tabE : Nat := 127
theorem tabs_of_is {W : World} (h : Lib.TabIs Tryz.prog W "internal/strconv.uint64pow10" .u64 Lib.pow10Tab) : Tabs W (Old W) := by
  intro g cs hg
  have e := List.mem_singleton.1 hg
  cases e
  unfold Lib.TabIs World.var? at h
  rw [show Tryz.prog.globalNamed "internal/strconv.uint64pow10" = some 1 by kernel_rfl] at h
  simp only [Option.bind_some] at h
  split at h
  · rename_i cs' e t hh
    simp only [Option.some.injEq] at h
    subst h
    refine ⟨?_, e, t, hh⟩
    rcases Nat.lt_or_ge 1 W.heap.size with q | q
    · exact q
    · rw [Array.getElem?_eq_none q] at hh; cases hh
  · cases h

end Rf
end
