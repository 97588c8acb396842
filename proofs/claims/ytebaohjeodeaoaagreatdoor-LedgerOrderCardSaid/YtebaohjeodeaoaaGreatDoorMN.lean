/- Texts of this work put together: LibI, EnvT, EqTrl, Tr1, Tr2. -/
import Derived.Shelf.SlIter.Nil
import Derived.Shelf.SortM.Plain
import Derived.Shelf.SortM.SortNone
import Derived.Ground.GgzProg
import Derived.Ground.SlgmProg
import Derived.Test.YtebaohjeodeaoaaGreatDoorProg
import Derived.Test.YtebaohjeodeaoaaGreatDoorMK
import Derived.Test.YtebaohjeodeaoaaGreatDoorMH
import Derived.KernelRfl
import Derived.Test.YtebaohjeodeaoaaGreatDoorMM
import Derived.Test.YtebaohjeodeaoaaGreatDoorMF
import Derived.Maps.Range

section
/- slices.Sorted(maps.Keys(m)) of a map whose keys are texts: by the library's contracts. -/
namespace Go.Proofs
open Go.RowKit Go.Maps Go.Sort Go.Shelf

def Tryz.keysL_ren : Go.Shelf.Ren := ⟨fun | 7 => 70 | 10 => 116 | n => n, fun | 23 => 122 | 26 => 9 | 3 => 94 | 28 => 133 | 0 => 0 | 27 => 132 | 33 => 68 | 4 => 4 | n => n, fun | n => n⟩
theorem Tryz.keysL : Go.Proofs.SlLaysZ.n7 Tryz.prog Tryz.keysL_ren := {
  mixed := by kernel_rfl
  f7 := ⟨Tryz.f70.name, by decide, Tryz.func70.trans (congrArg some (by kernel_rfl))⟩
  f10 := ⟨Tryz.f116.name, by decide, Tryz.func116.trans (congrArg some (by kernel_rfl))⟩
  t0 := Tryz.underlying0
  a0 := Tryz.isAgg0
  z0 := Tryz.sizeOf0
  v0 := Tryz.zeroValue0
  t4 := Tryz.underlying4
  a4 := Tryz.isAgg4
  z4 := Tryz.sizeOf4
  v4 := Tryz.zeroValue4
  t23 := Tryz.underlying122
  a23 := Tryz.isAgg122
  z23 := Tryz.sizeOf122
  v23 := Tryz.zeroValue122
  t26 := Tryz.underlying9
  a26 := Tryz.isAgg9
  z26 := Tryz.sizeOf9
  v26 := Tryz.zeroValue9
  t27 := Tryz.underlying132
  a27 := Tryz.isAgg132
  z27 := Tryz.sizeOf132
  v27 := Tryz.zeroValue132
  t28 := Tryz.underlying133
  a28 := Tryz.isAgg133
  z28 := Tryz.sizeOf133
  v28 := Tryz.zeroValue133
  t33 := Tryz.underlying68
  a33 := Tryz.isAgg68
  z33 := Tryz.sizeOf68
  v33 := Tryz.zeroValue68 }

def Tryz.sortedL_ren : Go.Shelf.Ren := ⟨fun | 6 => 69 | 8 => 114 | 9 => 115 | 11 => 150 | 13 => 152 | 12 => 151 | 23 => 163 | 24 => 184 | 14 => 175 | 15 => 176 | 16 => 177 | 17 => 178 | 18 => 179 | 19 => 180 | 20 => 181 | 21 => 182 | 22 => 183 | 25 => 213 | 26 => 214 | 27 => 215 | 28 => 216 | 29 => 217 | 30 => 170 | 31 => 238 | n => n, fun | 26 => 9 | 28 => 133 | 24 => 27 | 0 => 0 | 3 => 3 | 37 => 199 | 48 => 198 | 50 => 127 | 4 => 4 | 40 => 231 | 39 => 230 | 45 => 236 | 5 => 5 | 9 => 9 | 51 => 263 | 55 => 266 | 57 => 287 | 58 => 113 | 33 => 68 | n => n, fun | n => n⟩
theorem Tryz.sortedL : Go.Proofs.SlLaysZ.n6 Tryz.prog Tryz.sortedL_ren := {
  mixed := by kernel_rfl
  f6 := ⟨Tryz.f69.name, by decide, Tryz.func69.trans (congrArg some (by kernel_rfl))⟩
  f8 := ⟨Tryz.f114.name, by decide, Tryz.func114.trans (congrArg some (by kernel_rfl))⟩
  f11 := ⟨Tryz.f150.name, by decide, Tryz.func150.trans (congrArg some (by kernel_rfl))⟩
  t0 := Tryz.underlying0
  a0 := Tryz.isAgg0
  z0 := Tryz.sizeOf0
  v0 := Tryz.zeroValue0
  t24 := Tryz.underlying27
  a24 := Tryz.isAgg27
  z24 := Tryz.sizeOf27
  v24 := Tryz.zeroValue27
  t26 := Tryz.underlying9
  a26 := Tryz.isAgg9
  z26 := Tryz.sizeOf9
  v26 := Tryz.zeroValue9
  t28 := Tryz.underlying133
  a28 := Tryz.isAgg133
  z28 := Tryz.sizeOf133
  v28 := Tryz.zeroValue133
  i26 := by kernel_rfl }

def Tryz.sortL_ren : Go.Shelf.Ren := ⟨fun | 6 => 115 | 8 => 152 | 9 => 151 | 19 => 163 | 20 => 184 | 21 => 175 | 22 => 176 | 23 => 177 | 24 => 178 | 25 => 179 | 26 => 180 | 27 => 181 | 28 => 182 | 29 => 183 | 36 => 213 | 31 => 214 | 32 => 215 | 37 => 216 | 38 => 217 | 39 => 170 | 41 => 238 | n => n, fun | 27 => 27 | 29 => 9 | 3 => 3 | 32 => 199 | 26 => 27 | 0 => 0 | 44 => 198 | 46 => 127 | 4 => 4 | 36 => 231 | 35 => 230 | 41 => 236 | 5 => 5 | 9 => 9 | 53 => 263 | 57 => 266 | 63 => 287 | 64 => 113 | n => n, fun | n => n⟩
theorem Tryz.sortL : Go.Proofs.SlLaysM.n6 Tryz.prog Tryz.sortL_ren := {
  mixed := by kernel_rfl
  f6 := ⟨Tryz.f115.name, by decide, Tryz.func115.trans (congrArg some (by kernel_rfl))⟩
  f8 := Tryz.func152.trans (congrArg some (by kernel_rfl))
  f9 := ⟨Tryz.f151.name, by decide, Tryz.func151.trans (congrArg some (by kernel_rfl))⟩
  f19 := Tryz.func163.trans (congrArg some (by kernel_rfl))
  f20 := Tryz.func184.trans (congrArg some (by kernel_rfl))
  f21 := ⟨Tryz.f175.name, by decide, Tryz.func175.trans (congrArg some (by kernel_rfl))⟩
  f22 := ⟨Tryz.f176.name, by decide, Tryz.func176.trans (congrArg some (by kernel_rfl))⟩
  f23 := ⟨Tryz.f177.name, by decide, Tryz.func177.trans (congrArg some (by kernel_rfl))⟩
  f24 := ⟨Tryz.f178.name, by decide, Tryz.func178.trans (congrArg some (by kernel_rfl))⟩
  f25 := ⟨Tryz.f179.name, by decide, Tryz.func179.trans (congrArg some (by kernel_rfl))⟩
  f26 := ⟨Tryz.f180.name, by decide, Tryz.func180.trans (congrArg some (by kernel_rfl))⟩
  f27 := ⟨Tryz.f181.name, by decide, Tryz.func181.trans (congrArg some (by kernel_rfl))⟩
  f28 := ⟨Tryz.f182.name, by decide, Tryz.func182.trans (congrArg some (by kernel_rfl))⟩
  f29 := ⟨Tryz.f183.name, by decide, Tryz.func183.trans (congrArg some (by kernel_rfl))⟩
  f31 := Tryz.func214.trans (congrArg some (by kernel_rfl))
  f32 := Tryz.func215.trans (congrArg some (by kernel_rfl))
  f36 := ⟨Tryz.f213.name, by decide, Tryz.func213.trans (congrArg some (by kernel_rfl))⟩
  f37 := ⟨Tryz.f216.name, by decide, Tryz.func216.trans (congrArg some (by kernel_rfl))⟩
  f38 := ⟨Tryz.f217.name, by decide, Tryz.func217.trans (congrArg some (by kernel_rfl))⟩
  f39 := ⟨Tryz.f170.name, by decide, Tryz.func170.trans (congrArg some (by kernel_rfl))⟩
  f41 := ⟨Tryz.f238.name, by decide, Tryz.func238.trans (congrArg some (by kernel_rfl))⟩
  t0 := Tryz.underlying0
  a0 := Tryz.isAgg0
  z0 := Tryz.sizeOf0
  v0 := Tryz.zeroValue0
  t3 := Tryz.underlying3
  a3 := Tryz.isAgg3
  z3 := Tryz.sizeOf3
  v3 := Tryz.zeroValue3
  t4 := Tryz.underlying4
  a4 := Tryz.isAgg4
  z4 := Tryz.sizeOf4
  v4 := Tryz.zeroValue4
  t5 := Tryz.underlying5
  a5 := Tryz.isAgg5
  z5 := Tryz.sizeOf5
  v5 := Tryz.zeroValue5
  t9 := Tryz.underlying9
  a9 := Tryz.isAgg9
  z9 := Tryz.sizeOf9
  v9 := Tryz.zeroValue9
  t26 := Tryz.underlying27
  a26 := Tryz.isAgg27
  z26 := Tryz.sizeOf27
  v26 := Tryz.zeroValue27
  t27 := Tryz.underlying27
  a27 := Tryz.isAgg27
  z27 := Tryz.sizeOf27
  v27 := Tryz.zeroValue27
  t29 := Tryz.underlying9
  a29 := Tryz.isAgg9
  z29 := Tryz.sizeOf9
  v29 := Tryz.zeroValue9
  t32 := Tryz.underlying199
  a32 := Tryz.isAgg199
  z32 := Tryz.sizeOf199
  v32 := Tryz.zeroValue199
  t35 := Tryz.underlying230
  a35 := Tryz.isAgg230
  z35 := Tryz.sizeOf230
  v35 := Tryz.zeroValue230
  t36 := Tryz.underlying231
  a36 := Tryz.isAgg231
  z36 := Tryz.sizeOf231
  v36 := Tryz.zeroValue231
  t41 := Tryz.underlying236
  a41 := Tryz.isAgg236
  z41 := Tryz.sizeOf236
  v41 := Tryz.zeroValue236
  t44 := Tryz.underlying198
  a44 := Tryz.isAgg198
  z44 := Tryz.sizeOf198
  v44 := Tryz.zeroValue198
  t46 := Tryz.underlying127
  a46 := Tryz.isAgg127
  z46 := Tryz.sizeOf127
  v46 := Tryz.zeroValue127
  t53 := Tryz.underlying263
  a53 := Tryz.isAgg263
  z53 := Tryz.sizeOf263
  v53 := Tryz.zeroValue263
  t57 := Tryz.underlying266
  a57 := Tryz.isAgg266
  z57 := Tryz.sizeOf266
  v57 := Tryz.zeroValue266
  t63 := Tryz.underlying287
  a63 := Tryz.isAgg287
  z63 := Tryz.sizeOf287
  v63 := Tryz.zeroValue287
  t64 := Tryz.underlying113
  a64 := Tryz.isAgg113
  z64 := Tryz.sizeOf113
  v64 := Tryz.zeroValue113 }


/-- slices.Sort's two contracts at this dump, at the fence that asks nothing. -/
theorem Tryz.sortsL (m : Nat) : AnyZ.SortsIn Tryz.prog Tryz.sortedL_ren Fence.wide m :=
  ⟨fun blk off cap ss W hH hblk hsz => callsIn_wide.2 (AnyM.slices_Sort_string Tryz.sortL blk off cap ss W hH hblk hsz),
   fun p cap W => callsIn_wide.2 (AnyM.slices_Sort_string_none Tryz.sortL p cap W)⟩

theorem Tryz.maps_KeysL (mb : Option Nat) (W : World) : CallsIn Fence.wide 5 Tryz.prog 70 #[.map mb] W fun e w' => e = .returned (.func (.func 116) #[] #[.pointer (some ⟨W.heap.size, 0, none⟩)]) ∧ w' = W.alloc (.cells #[.map mb] 122) :=
  AnyZ.keys_in Tryz.keysL Fence.wide 5 trivial rfl mb W

set_option maxHeartbeats 1000000 in
theorem Tryz.sorted_keysL {H : Type} (b nn : Nat) (D0 : DataW H) (R : Value → Option (DataW H × List MemPlace)) (w : World) (hown : w.ownsMap Tryz.prog 9 R b nn D0) (hmax : Maps.size D0 ≤ maxLen) (hbytes : Maps.size D0 * 16 ≤ 140737488355328) :
    CallsIn Fence.wide 5 Tryz.prog 69 #[.func (.func 116) #[] #[.pointer (some ⟨w.heap.size, 0, none⟩)]] (w.alloc (.cells #[.map (some b)] 122)) fun e w' => ∃ (v : Value) (ss : List (List UInt8)), e = .returned v ∧ ss.Perm (strKeys D0) ∧
      w'.ownsRow (w.alloc (.cells #[.map (some b)] 122)).heap.size 9 1 v ss.length ((ss.mergeSort (fun x y => decide (x ≤ y))).map encStr) ∧ (v = .slice none 0 0 ↔ ss = []) ∧ Below (w.alloc (.cells #[.map (some b)] 122)).heap.size (w.alloc (.cells #[.map (some b)] 122)) w' := by
  have hbl := hown.lt
  have hseq : SeqGives Fence.wide 2 Tryz.prog 116 #[.pointer (some ⟨w.heap.size, 0, none⟩)] encStr (fun ss => ss.Perm (strKeys D0)) (Maps.size D0) (w.alloc (.cells #[.map (some b)] 122)) :=
    AnyZ.keys_gives (ρ := Tryz.keysL_ren) { Tryz.keysL with } Fence.wide _ trivial rfl (by omega) w.heap.size b nn D0 _ (by simp) (by simp) (by
      obtain ⟨es, clock, hb, Ft, hs, hD⟩ := hown
      exact ⟨es, clock, (Below.heap_alloc _ _ b hbl).trans hb, Ft, hs, hD⟩)
  exact AnyZ.sorted_in Tryz.sortedL Fence.wide 5 trivial trivial trivial trivial rfl (by omega) (Tryz.sortsL _) (enters_of Tryz.func115 (by kernel_rfl) rfl) 116 #[.pointer (some ⟨w.heap.size, 0, none⟩)] trivial (enters_of Tryz.func116 (by kernel_rfl) rfl) _ _ hmax hbytes _ hseq

end Go.Proofs
end

section
/- The tables in which Trial's own loop is told. -/
set_option linter.unusedVariables false
set_option linter.unusedSimpArgs false
namespace Rf
open Go

def trialA : FnI := ⟨[.obj 2, .mapt false [.str] (.agg [.list 1 [], .bool false]), .int .i64], [.obj 2, .mapt false [.str] (.agg [.list 1 [], .bool false]), .int .i64, .lst 2],
  [(3, [0, 3, 11, 12, 13], [.obj 2, .mapt false [.str] (.agg [.list 1 [], .bool false]), .int .i64, .own 2, .lst 1, .int .i64, .int .i64])]⟩
def fnTr : Nat → Option FnI := fun f => bif Nat.beq f 26 then some trialA else fnT f
noncomputable def EnT : Env := ⟨Go.Proofs.Tryz.prog, fcT, tyT, fnTr, extB⟩
theorem envOkT : EnvOk EnT := ⟨fun _ _ h => tyOk_of tyL_ok h, fun _ _ h => List.all_eq_true.1 mapL_ok _ (lookN_mem h), fun _ _ h => fcOk_of fcL_ok h, Checked.mixed Go.Proofs.Tryz.checked⟩
theorem extT_ok : ExtOk EnT := by
  intro f g i L L' hf hi hL
  have hf : lookN f extN = some g := hf
  have hi : fnTr f = some i := hi
  unfold fnTr at hi
  cases hb : Nat.beq f 26 with
  | true =>
    obtain rfl := Nat.eq_of_beq_eq_true hb
    have : lookN 26 extN = none := by kernel_rfl
    rw [this] at hf
    cases hf
  | false =>
    rw [hb, cond_false] at hi
    exact extN_ok hf hi hL

end Rf
end

section
/- Made by a program of this work: what each function comes to, one step of it; by the kernel. -/
set_option linter.unusedVariables false
set_option maxRecDepth 100000
set_option maxHeartbeats 4000000
namespace Rf
open Go

noncomputable def ledger_Ledger_Trial.l3 (n : Nat) (ms : List Nat) (m : Nat) (L : List FV) : Res := Lp EnT n 26 [1, 1, 0, 1, 0] ms m L
theorem ledger_Ledger_Trial.l3_eq (n m : Nat) (e0 : List FV) (x0 : Int) (x1 : Int) (l2 : List FV) (l3 : List FV) (x4 : Int) (x5 : Int) : ledger_Ledger_Trial.l3 n [] (m + 1) [.list 3 e0, .int .i64 x0, .int .i64 x1, .list 2 l2, .list 1 l3, .int .i64 x4, .int .i64 x5] = 
  (bif (decide (x5 < x4)) then (ix x5 l3.length).bind fun i0 => (asStr (at' l3 i0 0)).bind fun u1 => (evF EnT n 28 [.list 3 e0, .int .i64 x0, .int .i64 x1, .str u1]).bind fun r2 => (asLst 3 (r2[0]?)).bind fun v3 => (asInt .i64 (r2[1]?)).bind fun n4 => (asInt .i64 (r2[2]?)).bind fun n5 => (asStr (r2[3]?)).bind fun u6 => 
    (bif (Nat.ble (l2.length + (elemsOf 1 (.agg [.str { data := #[] }, .str { data := #[] }]) [(0, (.agg [.str u1, .str u6]))]).length) 4398046511104) then ledger_Ledger_Trial.l3 n [] m [.list 3 v3, .int .i64 n4, .int .i64 n5, .list 2 (l2 ++ (elemsOf 1 (.agg [.str { data := #[] }, .str { data := #[] }]) [(0, (.agg [.str u1, .str u6]))])), .list 1 l3, .int .i64 x4, .int .i64 (Go.IntKind.wrap .i64 (x5 + 1))]
     else none)
   else some [.list 3 e0, .int .i64 x0, .int .i64 x1, .list 2 l2]) := by kernel_rfl
theorem ledger_Ledger_Trial_eq (n : Nat) (e0 : List FV) (x0 : Int) (x1 : Int) : evF EnT (n + 1) 26 [.list 3 e0, .int .i64 x0, .int .i64 x1] = none := by kernel_rfl
theorem ledger_Ledger_Balance_tr_eq (n : Nat) (e0 : List FV) (x0 : Int) (x1 : Int) (s2 : ByteArray) : evF EnT (n + 1) 28 [.list 3 e0, .int .i64 x0, .int .i64 x1, .str s2] = (asLst 1 (at' [mgetD e0 (.str s2) (.agg [.list 1 [], .bool false])] 0 0)).bind fun v0 => (asBool (at' [mgetD e0 (.str s2) (.agg [.list 1 [], .bool false])] 0 1)).bind fun c1 => (evF EnT n 71 [.list 1 v0, .bool c1]).bind fun r2 => (asStr (r2[0]?)).bind fun u3 => some [.list 3 e0, .int .i64 x0, .int .i64 x1, .str u3] := by kernel_rfl

end Rf
end

section
/- Ledger.Trial: the walk up to its loop; the loop by leaves. -/
set_option linter.unusedSimpArgs false
set_option linter.unusedVariables false
namespace Rf
open Go Go.RowKit Go.Shelf Go.Proofs
attribute [local go_sem] Oper.semAt_some

noncomputable abbrev pT (l : List Nat) : Code := sub ((Tryz.f26).body.getD .skip) l

set_option maxHeartbeats 2000000 in
set_option maxRecDepth 100000 in
theorem trial_pre (B b : Nat) (k : Int) (w : World) {ty : TypeId} (hB : w.heap[B]? = some (.cells #[.map (some b), .int .i64 k] ty (0, 0))) {R : Option Addr → Nat → Nat → World → Prop}
    (c69 : CallsIn Fence.wide 5 Tryz.prog 69 #[.func (.func 116) #[] #[.pointer (some ⟨w.heap.size, 0, none⟩)]] (w.alloc (.cells #[.map (some b)] 122)) fun e w1 => ∃ a n c, e = .returned (.slice a n c) ∧ R a n c w1)
    {cb cf : Code} {Q : Exit → Act → World → Prop}
    (hK : ∀ a n c w1 (K' : Act → World → Prop) (a' : Act), R a n c w1 → (∀ a w, cf.wpIn Fence.wide 6 Tryz.prog Q a w → K' a w) → a'.tmps.size = 27 → a'.defers = [] → a'.tmps.getD 0 undef = .pointer (some ⟨B, 0, none⟩) → a'.tmps.getD 3 undef = .slice none 0 0 → a'.tmps.getD 11 undef = .slice a n c →
      a'.tmps.getD 12 undef = .int .i64 (n : Int) → a'.tmps.getD 13 undef = .int .i64 0 → cb.wpIn Fence.wide 6 Tryz.prog (Exit.then K' Q) a' w1) :
    Code.wpIn Fence.wide 6 Tryz.prog ((pT [0]).seq ((pT [1, 0]).seq (((pT [1, 1, 0, 0]).seq cb).seq cf))) Q
      { tmps := #[.pointer (some ⟨B, 0, none⟩), undef, undef, undef, undef, undef, undef, undef, undef, undef, undef, undef, undef, undef, undef, undef, undef, undef, undef, undef, undef, undef, undef, undef, undef, undef, undef], defers := [] } w := by
  dsimp only [pT, Tryz.f26, Option.getD_some, sub, Nat.beq, cond_true, cond_false, cond]
  have t70 : Fence.wide.fn 70 := trivial
  have t69 : Fence.wide.fn 69 := trivial
  have h1 : 1 ≤ 6 := by omega
  have c0 : w.cell? ⟨B, 0, none⟩ = some (.map (some b)) := by simp [World.cell?, hB]
  gi_wp2_with (first
    | (gi_at_call 70; refine (Tryz.maps_KeysL _ _).mono ?_; rintro e w1 ⟨rfl, rfl⟩)
    | (gi_at_call 69; refine c69.mono ?_; rintro e w2 ⟨a, n, c, rfl, hR⟩))
  exact hK a n c _ _ _ hR (by assumption) rfl rfl rfl rfl rfl rfl rfl

abbrev trT : List Tok := [.obj 2, .mapt false [.str] zz, .int .i64, .own 2, .lst 1, .int .i64, .int .i64]
def trPs : List SV := [.ptr 1000 0]

theorem trTail_ev {n : Nat} {es : List FV} {c k : Int} {keys : List FV} {x y : Int} : evC EnT (evF EnT n) trialA.ann n (.seq (pT [1, 1, 0, 1]) (pT [1, 1, 1])) (kRet EnT Go.Proofs.Tryz.f26 trialA trPs) (memOf [0, 3, 11, 12, 13] trT [.list 3 es, .int .i64 c, .int .i64 k, .list 2 [], .list 1 keys, .int .i64 x, .int .i64 y]) =
    ledger_Ledger_Trial.l3 n [] n [.list 3 es, .int .i64 c, .int .i64 k, .list 2 [], .list 1 keys, .int .i64 x, .int .i64 y] := by kernel_rfl

theorem trTail_ok1 : codeOk 27 (pinsOf 0 trPs) (pT [1, 1, 0, 1]) = true := by kernel_rfl
theorem trTail_ok2 : codeOk 27 (pinsOf 0 trPs) (pT [1, 1, 1]) = true := by kernel_rfl

/-! ### what the loop tells -/
def tE (p : LK × Int) : FV := .agg [.str (txt p.1), .str (txt (ztext p.2))]

theorem eT_text {n : Nat} {z : Int} {k : Nat} (hk : k ≤ 10000000000) (hz : z.natAbs < 2 ^ k) : evF EnT (n + 1) 71 [zl z, zb z] = some [sF (ztext z)] := by
  have e : evF EnT (n + 1) 71 [zl z, zb z] = limE 71 [zl z, zb z] := by kernel_rfl
  rw [e]; exact limE_ev (ntext_ev hk hz)

theorem balT {n : Nat} {S : LS} {c k : Int} {K : Nat} (hK : K + 1 ≤ 10000000000) (hS : Lim S (2 ^ K)) (q : LK) : evF EnT (n + 2) 28 [.list 3 (stE S), .int .i64 c, .int .i64 k, sK q] = some [.list 3 (stE S), .int .i64 c, .int .i64 k, sF (ztext (lget S q))] := by
  have hb : (lget S q).natAbs < 2 ^ (K + 1) := by
    have h1 := lget_lim hS q
    have h2 : 2 ^ (K + 1) = 2 ^ K * 2 := Nat.pow_succ ..
    have h3 : 0 < 2 ^ K := Nat.two_pow_pos K
    omega
  rw [ledger_Ledger_Balance_tr_eq, show (FV.agg [.list 1 [], .bool false]) = zN 0 from zN_zero.symm, mget_stE, kOf_sK]
  simp only [zN_eq, at_one, FV.cells, List.getElem?_cons_zero, List.getElem?_cons_succ, asLst_list, asBool_bool, Option.bind_some]
  rw [eT_text hK hb, Option.bind_some]
  rfl

theorem lget_at : ∀ {S : LS}, Asc S → ∀ (i : Nat) (h : i < S.length), lget S (S[i]).1 = (S[i]).2
  | (a, x) :: r, hS, 0, _ => by simp [lget]
  | (a, x) :: r, hS, i + 1, h => by
    have hS' := List.pairwise_cons.1 hS
    have hi : i < r.length := by simpa using h
    have hlt := hS'.1 r[i] (List.getElem_mem hi)
    have hne : a ≠ (r[i]).1 := fun e => by rw [← e] at hlt; exact klt_irr _ hlt
    simp only [List.getElem_cons_succ, lget, if_neg hne]
    exact lget_at hS'.2 i hi

theorem elems1 (z v : FV) : elemsOf 1 z [(0, v)] = [v] := rfl

theorem trial_loop {n : Nat} {S : LS} {c k : Int} {K : Nat} (hK : K + 1 ≤ 10000000000) (hS : Lim S (2 ^ K)) (hA : Asc S) (hl : S.length ≤ 1000000) : ∀ (d i m : Nat), i + d = S.length → d < m →
    ledger_Ledger_Trial.l3 (n + 2) [] m [.list 3 (stE S), .int .i64 c, .int .i64 k, .list 2 ((S.take i).map tE), .list 1 ((S.map (·.1)).map sK), .int .i64 (S.length : Int), .int .i64 (i : Int)] = some [.list 3 (stE S), .int .i64 c, .int .i64 k, .list 2 (S.map tE)]
  | 0, i, m, hi, hm => by
    obtain ⟨m, rfl⟩ : ∃ k, m = k + 1 := ⟨m - 1, by omega⟩
    rw [ledger_Ledger_Trial.l3_eq, show decide ((i : Int) < (S.length : Int)) = false from decide_eq_false (by omega), cond_false, List.take_of_length_le (by omega)]
  | d + 1, i, m, hi, hm => by
    obtain ⟨m, rfl⟩ : ∃ k, m = k + 1 := ⟨m - 1, by omega⟩
    have hlt : i < S.length := by omega
    have hat : at' ((S.map (·.1)).map sK) i 0 = some (sK (S[i]).1) := by
      rw [at_map, List.getElem?_map, List.getElem?_eq_getElem hlt]; rfl
    rw [ledger_Ledger_Trial.l3_eq, show decide ((i : Int) < (S.length : Int)) = true from decide_eq_true (by omega), cond_true, ix_nat (by simpa using hlt), Option.bind_some, hat, asStr_str, Option.bind_some, balT hK hS, Option.bind_some, lget_at hA i hlt]
    simp only [List.getElem?_cons_zero, List.getElem?_cons_succ, asLst_list, asInt_int, asStr_str, Option.bind_some, elems1]
    rw [show Nat.ble (((S.take i).map tE).length + [FV.agg [.str (txt (S[i]).1), .str (txt (ztext (S[i]).2))]].length) 4398046511104 = true from Nat.ble_eq_true_of_le (by simp; omega), cond_true, wrap_succ (by omega)]
    have e : (S.take i).map tE ++ [FV.agg [.str (txt (S[i]).1), .str (txt (ztext (S[i]).2))]] = (S.take (i + 1)).map tE := by
      rw [List.take_add_one, List.getElem?_eq_getElem hlt, Option.toList_some, List.map_append]
      rfl
    rw [e]
    exact trial_loop hK hS hA hl d (i + 1) m (by omega) (by omega)

end Rf
end

section
/- Ledger.Trial: its contract. -/
set_option linter.unusedSimpArgs false
set_option linter.unusedVariables false
set_option maxHeartbeats 4000000
namespace Rf
open Go Go.RowKit Go.Proofs Go.Maps Go.WideElems Go.WideShapes

abbrev oneR : Value → Option (DataW Unit × List MemPlace) := fun _ => some (.lit (.bool true), [])

/-- a map whose keys are texts, as the library's contracts hold it -/
theorem owns_keys {w : World} {b : Nat} {arr : Array MapEntry} {c : Nat} (hb : w.heap[b]? = some (.map arr c)) (hst : MapKept.Stamped arr c) {ks : List LK} (hk : arr.toList.map (·.key) = ks.map fun q => Value.string (txt q)) (hl : ∀ q, q ∈ ks → q.length ≤ 1048576) (hn : arr.size ≤ 1000000) :
    ∃ D : DataW Unit, w.ownsMap Tryz.prog 9 oneR b arr.size D ∧ (strKeys D).Perm ks ∧ Maps.size D = arr.size := by
  have hrd : ∀ x, x ∈ arr.toList → ∃ q, x.key = .string (txt q) ∧ rd Tryz.prog 9 oneR x = some (.string q, .lit (.bool true)) := fun x hx => by
    have h1 : x.key ∈ arr.toList.map (·.key) := List.mem_map.2 ⟨x, hx, rfl⟩
    rw [hk] at h1
    obtain ⟨q, hq, hqe⟩ := List.mem_map.1 h1
    refine ⟨q, hqe.symm, ?_⟩
    have hlen := hl q hq
    have hkey : keyOf Tryz.prog 9 (.string (txt q)) = some (.string q) := by
      unfold keyOf mapKey
      rw [Tryz.underlying9]
      simp only
      rw [if_pos (by rw [txt_size]; unfold maxLen; omega), txt_data]
    exact rd_mk (R := oneR) (key := x.key) (val := x.val) (yv := (.lit (.bool true), [])) (born := x.born) (by rw [← hqe]; exact hkey) rfl
  refine ⟨.map ((arr.toList.map (rg Tryz.prog 9 oneR)).foldr DataW.insert []), ⟨arr, c, hb, ⟨by unfold maxLen; omega, hst, fun x hx => ?_⟩, Nat.le_refl _, rfl⟩, ?_, ?_⟩
  · obtain ⟨q, _, h⟩ := hrd x hx
    exact ⟨_, h⟩
  · have hp := (sorted_perm (arr.toList.map (rg Tryz.prog 9 oneR))).map fun p => strOf p.1
    refine hp.trans ?_
    rw [List.map_map]
    have : arr.toList.map ((fun p : Lit × DataW Unit => strOf p.1) ∘ rg Tryz.prog 9 oneR) = ks := by
      have key : ∀ (l : List MapEntry) (ks : List LK), (∀ x, x ∈ l → ∃ q, x.key = .string (txt q) ∧ rd Tryz.prog 9 oneR x = some (.string q, .lit (.bool true))) → l.map (·.key) = ks.map (fun q => Value.string (txt q)) → l.map ((fun p : Lit × DataW Unit => strOf p.1) ∘ rg Tryz.prog 9 oneR) = ks := by
        intro l
        induction l with
        | nil => intro ks _ h; cases ks with | nil => rfl | cons _ _ => simp at h
        | cons x l ih =>
          intro ks hx h
          cases ks with
          | nil => simp at h
          | cons q ks =>
            simp only [List.map_cons, List.cons.injEq] at h
            obtain ⟨q', e1, e2⟩ := hx x (by simp)
            have : q' = q := by
              have := e1.symm.trans h.1
              simp only [Value.string.injEq] at this
              exact txt_inj this
            subst this
            rw [List.map_cons, ih ks (fun y hy => hx y (by simp [hy])) h.2]
            simp only [Function.comp, rg_of e2, strOf]
      exact key arr.toList ks hrd hk
    rw [this]
  · have := (sorted_perm (arr.toList.map (rg Tryz.prog 9 oneR))).length_eq
    simpa [Maps.size] using this

theorem asc_sorted {S : LS} (hA : Asc S) {ss : List LK} (hp : ss.Perm (S.map (·.1))) : ss.mergeSort (fun x y => decide (x ≤ y)) = S.map (·.1) := by
  have h1 := mergeSort_of_perm hp
  have h2 : (S.map (·.1)).mergeSort leB = S.map (·.1) := by
    refine List.mergeSort_of_pairwise ?_
    rw [List.pairwise_map]
    exact hA.imp fun hab => by simp only [leB, decide_eq_true_eq]; exact List.le_of_lt hab
  exact h1.trans h2

theorem arr_keys {w : World} {S : Nat → Prop} : ∀ {es : List FV} {l : List MapEntry} {ks : List LK}, All2 (ERep w S false [.str] zz) es l → es.map entKey = ks.map sK → l.map (·.key) = ks.map fun q => Value.string (txt q)
  | _, _, [], .nil, _ => rfl
  | _, _, _ :: _, .nil, h => by simp at h
  | _, _, [], .cons _ _, h => by simp at h
  | x :: es, e :: l, q :: ks, .cons h1 h2, h => by
    simp only [List.map_cons, List.cons.injEq] at h
    obtain ⟨k, v, rfl, _, _, hk, _⟩ := h1
    have hkk : k = sK q := h.1
    subst hkk
    have : e.key = .string (txt q) := by
      generalize e.key = y at hk
      cases hk
      rfl
    rw [List.map_cons, List.map_cons, this, arr_keys h2 h.2]

theorem row_keys {w : World} {base : Nat} {v : Value} {ks : List LK} (h : w.ownsRow base 9 1 v ks.length (ks.map encStr)) {S : Nat → Prop} (hS : ∀ b, base ≤ b → b < w.heap.size → S b) : ∃ a c, v = .slice a ks.length c ∧ FRep w S (.list 1 (ks.map sK)) v := by
  rcases h.2 with ⟨rfl, h0⟩ | ⟨g, cap, cur, rfl, hb, hh, hc, hm, hcs, ht⟩
  · have : ks = [] := List.eq_nil_of_length_eq_zero h0
    subst this
    exact ⟨none, 0, rfl, nil_list⟩
  · refine ⟨_, cap, rfl, FRep.list_iff.2 ⟨some ⟨g, 0, none⟩, cap, g, 0, by simp, by simpa using hc, fun _ => ⟨rfl, hS g hb (Array.getElem?_eq_some_iff.1 hh).1⟩, fun x hx => ?_, fun i j x c hi hj => ?_⟩⟩
    · obtain ⟨q, _, rfl⟩ := List.mem_map.1 hx
      exact ⟨rfl, fun c hc => by simp [FV.cells] at hc; subst hc; rfl⟩
    · rw [List.getElem?_map] at hi
      cases hq : ks[i]? with
      | none => rw [hq] at hi; cases hi
      | some q =>
        rw [hq] at hi
        simp only [Option.map_some, Option.some.injEq] at hi
        subst hi
        have hlt := (List.getElem?_eq_some_iff.1 hq).1
        have hj0 : j = 0 := by
          have := (List.getElem?_eq_some_iff.1 hj).1
          simp [FV.cells] at this
          exact this
        subst hj0
        simp only [FV.cells, List.getElem?_cons_zero, Option.some.injEq] at hj
        subst hj
        refine ⟨.string (txt q), ?_, .str _⟩
        rw [cellAt_eq hh]
        have e : (cur.toList.take (ks.length * 1))[i]? = some (encStr q) := by rw [ht, List.getElem?_map, hq]; rfl
        rw [List.getElem?_take, if_pos (by omega)] at e
        simpa [encStr, txt] using e

theorem trial_ok {L L' : List FV} (hL : trialExt L = some L') : Enters Tryz.prog 26 ∧ CSpec Tryz.prog 26 ⟨ledT, ledT ++ [.lst 2], []⟩ L L' := by
  refine ⟨⟨Tryz.f26, Tryz.func26, rfl, by kernel_rfl⟩, fun w S V G hS hTb hT hgo => ?_⟩
  obtain ⟨g, g2, ty, es, clk, k, V1, L1, rfl, rfl, hR⟩ := led_rep (T := []) hT
  obtain ⟨rfl, rfl, hG⟩ := hR.rest
  simp only [List.append_nil, trialExt] at hL
  split at hL
  · rename_i S0 hso
    split at hL
    · rename_i hc
      obtain ⟨hlim, hlen, hkl⟩ := hc
      obtain ⟨rfl, hA⟩ := stO_some hso
      cases hL
      obtain ⟨es0, arr, c, hbk, hlike, hst, hz, hall⟩ := hR.m2
      have hacc : Acc es0 S0 := Acc.of (c := c) (clk := clk) (by rw [zN_zero]; exact hlike)
      obtain ⟨_, ks, hks, hkp⟩ := hacc
      have hak := arr_keys hall hks
      have hkn : ks.length = S0.length := by have := hkp.length_eq; simpa using this
      have han : arr.size = S0.length := by
        have := congrArg List.length hak
        simp only [List.length_map, Array.length_toList] at this
        omega
      have hkq : ∀ q, q ∈ ks → q.length ≤ 1048576 := fun q hq => by
        obtain ⟨p, hp, rfl⟩ := List.mem_map.1 (hkp.mem_iff.1 hq)
        exact hkl p hp
      obtain ⟨D, hown, hperm, hsz⟩ := owns_keys hbk hst hak hkq (by omega)
      have hGi : ∀ b, Given G b ↔ b = g.blk ∨ b = g2.blk := fun b => by
        rw [hG]
        constructor
        · rintro ⟨i, g', sh, hi, hn, rfl⟩
          rcases i with _ | _ | i <;> simp at hi
          · obtain ⟨rfl, _⟩ := hi; exact .inl rfl
          · obtain ⟨rfl, _⟩ := hi; exact .inr rfl
        · rintro (rfl | rfl)
          · exact ⟨0, g, _, rfl, hR.nil, rfl⟩
          · exact ⟨1, g2, _, rfl, hR.n2, rfl⟩
      have hg0 : G[0]? = some (g, (none, some (.n 2))) := by rw [hG]; rfl
      have hg1 : G[1]? = some (g2, (none, some mK)) := by rw [hG]; rfl
      have og := hgo.own 0 g _ hg0 hR.nil
      have og2 := hgo.own 1 g2 _ hg1 hR.n2
      have hne : g.blk ≠ g2.blk := fun e => absurd (hgo.inj 0 1 g g2 _ _ hg0 hg1 hR.nil hR.n2 e) (by omega)
      have hBa : Below w.heap.size w (w.alloc (.cells #[.map (some g2.blk)] 122)) := (Below.refl _ w).alloc (Nat.le_refl _) _
      have c69 := Tryz.sorted_keysL g2.blk arr.size D oneR w hown (by rw [hsz]; unfold maxLen; omega) (by rw [hsz]; omega)
      refine (callsIn_wide (n := 6)).1 ?_
      obtain ⟨cb, hcb⟩ : ∃ cb, pT [1, 1, 0, 1] = cb := ⟨_, rfl⟩
      obtain ⟨cf, hcf⟩ : ∃ cf, pT [1, 1, 1] = cf := ⟨_, rfl⟩
      refine callsIn_of_wp (c := (pT [0]).seq ((pT [1, 0]).seq (((pT [1, 1, 0, 0]).seq cb).seq cf))) Tryz.func26 (by rw [← hcb, ← hcf]; rfl) trivial ?_ rfl
      generalize hQ : bodyPost Tryz.prog Tryz.f26 _ = Q
      simp only [Tryz.ntmps26, List.size_toArray, List.length_cons, List.length_nil, Nat.reduceAdd, Nat.reduceSub, Array.replicate_succ, Array.replicate_zero, List.push_toArray, List.append_toArray, List.nil_append, List.cons_append]
      refine trial_pre g.blk g2.blk k w hR.blk (R := fun a n c' w1 => n = S0.length ∧ Below w.heap.size w w1 ∧ FRep w1 (fun b => S b ∨ (w.heap.size ≤ b ∧ b < w1.heap.size)) (.list 1 ((S0.map (·.1)).map sK)) (.slice a n c')) (c69.mono ?_) ?_
      · rintro e w1 ⟨v, ss, rfl, hsp, hrow, _, hB⟩
        have hsp2 : ss.Perm (S0.map (·.1)) := hsp.trans (hperm.trans hkp)
        have hlen2 : ss.length = (S0.map (·.1)).length := hsp2.length_eq
        rw [asc_sorted hA hsp2, hlen2] at hrow
        have hB2 : Below w.heap.size w w1 := hBa.trans (hB.mono (by simp))
        obtain ⟨a, c', rfl, hfr⟩ := row_keys hrow (S := fun b => S b ∨ (w.heap.size ≤ b ∧ b < w1.heap.size)) fun b h1 h2 => .inr ⟨by rw [World.size_alloc] at h1; omega, h2⟩
        exact ⟨a, _, c', rfl, by simp, hB2, hfr⟩
      · rintro a n c' w1 K' a' ⟨rfl, hB, hfr⟩ hK' h27 hdf h0 h3 h11 h12 h13
        subst hQ
        refine wpIn_wide.2 ?_
        have hS1 : ∀ b, (S b ∨ (w.heap.size ≤ b ∧ b < w1.heap.size)) → b < w1.heap.size := fun b hb => by
          rcases hb with hb | hb
          · exact Nat.lt_of_lt_of_le (hS b hb) hB.size
          · exact hb.2
        have nS1 : ∀ b, ¬ S b → b < w.heap.size → ¬ (S b ∨ (w.heap.size ≤ b ∧ b < w1.heap.size)) := fun b h1 h2 h3 => by
          rcases h3 with h3 | h3
          · exact h1 h3
          · omega
        have hmap : MRep w1 (fun b => S b ∨ (w.heap.size ≤ b ∧ b < w1.heap.size)) g2 false [.str] zz (stE S0) clk := hR.m2.mono (fun b hb => hB.block b (hS b hb)) (fun _ h => .inl h) (hB.block _ og2.1)
        have hev := (trTail_ev (n := S0.length + 2) (es := stE S0) (c := clk) (k := k) (keys := (S0.map (·.1)).map sK) (x := (S0.length : Int)) (y := 0)).trans (trial_loop (n := S0.length) (K := 1000001) (by omega) hlim hA hlen S0.length 0 (S0.length + 2) (by omega) (by omega))
        rw [← hcb]
        refine tail2_ok (E := EnT) envOkT (evF_ok envOkT extT_ok (S0.length + 2)) (C := ⟨w, S, Given G, 27, fun t => if t = 0 then some (.pointer (some ⟨g.blk, 0, none⟩)) else none⟩) (i := trialA) (fn := Tryz.f26) (n := S0.length + 2) (c2 := cf) (ps := trPs) (ts := [0, 3, 11, 12, 13]) (nm := namesFrom 1000 3) (V0 := [.pointer (some ⟨g.blk, 0, none⟩)])
          (V := [.pointer (some ⟨g.blk, 0, none⟩), .slice none 0 0, .slice a S0.length c', .int .i64 (S0.length : Int), .int .i64 0]) (T := trT) (L := [.list 3 (stE S0), .int .i64 clk, .int .i64 k, .list 2 [], .list 1 ((S0.map (·.1)).map sK), .int .i64 (S0.length : Int), .int .i64 0])
          (G := [(g, (none, some (.n 2))), (g2, (none, some mK)), (⟨0, 0, 0, true⟩, (some (2, 0), none))]) (S := fun b => S b ∨ (w.heap.size ≤ b ∧ b < w1.heap.size))
          trTail_ok1 (by rw [← hcf]; exact trTail_ok2) (Nat.le_of_eq Tryz.ntmps26) h27 hdf ?_ ?_ ?_ rfl ?_ ?_ rfl rfl (namesFrom_inj 1000 3) ?_ (.cons h0 (.cons h3 (.cons h11 (.cons h12 (.cons h13 .nil))))) (by rw [← hcf]; exact hev) (fun a w h => hK' a w (wpIn_wide.2 h))
        · intro d' hd'
          simp only [trPs, pinsOf, List.mem_singleton] at hd'
          exact if_neg hd'
        · intro t' v' h'
          simp only at h'
          split at h'
          · rename_i h0'; subst h0'; cases h'; exact h0
          · cases h'
        · intro t' v' h1 h2
          simp only [trPs, pinsOf, List.mem_singleton] at h1
          subst h1
          simp only [if_true]
          simpa using h2
        · refine ⟨hB.size, fun b hb _ => hB.block b hb, hB.os, hB.tape, hB.output, hS1, fun b hb => .inl hb, fun b hb => ?_, ⟨hTb, fun b hb hs => ?_⟩⟩
          · rcases hb with hb | hb
            · exact .inl hb
            · exact .inr (.inr hb.1)
          · rcases (hGi b).1 hb with rfl | rfl
            · exact og.2.1 hs
            · exact og2.2.1 hs
        · exact led_back (U := [.own 2, .lst 1, .int .i64, .int .i64]) (V2 := [.slice none 0 0, .slice a S0.length c', .int .i64 (S0.length : Int), .int .i64 0]) (L2 := [.list 2 [], .list 1 ((S0.map (·.1)).map sK), .int .i64 (S0.length : Int), .int .i64 0])
            { nil := hR.nil, blk := (hB.block _ og.1).trans hR.blk, n2 := hR.n2, m2 := hmap, rest := ⟨⟨0, 0, 0, true⟩, [], _, _, rfl, rfl, ⟨Nat.le_refl _, by simp⟩, _, _, _, _, rfl, rfl, rfl, hfr, _, _, _, _, rfl, rfl, rfl, .int _ _, _, _, _, _, rfl, rfl, rfl, .int _ _, rfl, rfl, rfl⟩ }
        · refine ⟨fun i g' sh hi hn => ?_, fun i j g1 g2' s1 s2 hi hj n1 n2 he => ?_⟩
          · rcases i with _ | _ | _ | i <;> simp at hi
            · obtain ⟨rfl, _⟩ := hi
              exact ⟨Nat.lt_of_lt_of_le og.1 hB.size, nS1 _ og.2.1 og.1, og.2.2⟩
            · obtain ⟨rfl, _⟩ := hi
              exact ⟨Nat.lt_of_lt_of_le og2.1 hB.size, nS1 _ og2.2.1 og2.1, og2.2.2⟩
            · obtain ⟨rfl, _⟩ := hi
              cases hn
          · rcases i with _ | _ | _ | i <;> rcases j with _ | _ | _ | j <;> simp at hi hj
            · rfl
            · obtain ⟨rfl, _⟩ := hi; obtain ⟨rfl, _⟩ := hj; exact absurd he hne
            · obtain ⟨rfl, _⟩ := hj; cases n2
            · obtain ⟨rfl, _⟩ := hi; obtain ⟨rfl, _⟩ := hj; exact absurd he.symm hne
            · rfl
            · obtain ⟨rfl, _⟩ := hj; cases n2
            · obtain ⟨rfl, _⟩ := hi; cases n1
            · obtain ⟨rfl, _⟩ := hi; cases n1
            · rfl
    · cases hL
  · cases hL

end Rf
end
