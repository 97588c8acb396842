/- Texts of this work put together: Sam, Fin2, EqLed, Lru. -/
import Derived.Deep.QuietTactic
import Derived.BigQuiet
import Derived.Laws.StructEq
import Derived.LoopTactic
import Derived.Deep.LoopGhost
import Derived.WalkKit
import Derived.Test.YtebaohjeodeaoaaGreatDoorMM
import Derived.Test.YtebaohjeodeaoaaGreatDoorMN
import Derived.Test.YtebaohjeodeaoaaGreatDoorMH
import Derived.KernelRfl
import Derived.Test.YtebaohjeodeaoaaGreatDoorMK

section
/- same of one list of entries: they are the same. -/
set_option linter.unusedSimpArgs false
set_option linter.unusedVariables false
namespace Rf
open Go Go.RowKit Go.Shelf Go.Proofs

set_option maxRecDepth 100000 in
set_option maxHeartbeats 1000000 in
theorem same_nil (a1 a2 : Option Addr) (c1 c2 : Nat) (w : World) : Calls Tryz.prog 30 #[.slice a1 0 c1, .slice a2 0 c2] w fun e w' => e = .returned (.bool true) ∧ Below w.heap.size w w' := by
  go_enter Tryz.func30, Tryz.ntmps30
  go_wp2
  go_loop [5] (fun i => i = .int .i64 0) (fun _ => 0)
  case atStart => rfl
  case round =>
    subst hrel
    go_wp2
    go_ret
    exact ⟨rfl, Below.refl _ _⟩

/-- an entry's cells lie here -/
def EnAt (W : World) (b o : Nat) (x : ByteArray × ByteArray) : Prop := W.cell? ⟨b, o, none⟩ = some (.string x.1) ∧ W.cell? ⟨b, o + 1, none⟩ = some (.string x.2)

set_option maxRecDepth 100000 in
set_option maxHeartbeats 1000000 in
theorem same_some (b1 o1 b2 o2 c1 c2 : Nat) (xs : EL) (w0 w : World) (hw : Below w0.heap.size w0 w) (hl : xs.length ≤ 1000000000)
    (h1 : Asd (∀ k x, xs[k]? = some x → ∀ W : World, Below w0.heap.size w0 W → EnAt W b1 (o1 + k * 2) x ∧ EnAt W b2 (o2 + k * 2) x)) :
    Calls Tryz.prog 30 #[.slice (some ⟨b1, o1, none⟩) xs.length c1, .slice (some ⟨b2, o2, none⟩) xs.length c2] w fun e w' => e = .returned (.bool true) ∧ Below w0.heap.size w0 w' := by
  go_enter Tryz.func30, Tryz.ntmps30
  go_wp2
  go_loopw [5] (fun i W => Below w0.heap.size w0 W ∧ ∃ k : Nat, k ≤ xs.length ∧ i = .int .i64 k) (fun i _ => xs.length - (RowKit.intOf i).toNat)
  case atStart => exact ⟨hw, 0, Nat.zero_le _, rfl⟩
  case round =>
    obtain ⟨hB, k, hk, rfl⟩ := hrel
    by_cases hlt : k < xs.length
    · obtain ⟨⟨p0, p1⟩, ⟨q0, q1⟩⟩ := h1.out k xs[k] (List.getElem?_eq_getElem hlt) wr hB
      have hi : (k : Int) < (xs.length : Int) := by omega
      have hB' : Asd (Below w0.heap.size w0 wr) := ⟨hB⟩
      clear hB hw h1
      generalize xs[k] = x at *
      go_wp2
      go_quiet (fail)
      go_wp2
      go_roundw
      case rel => exact ⟨⟨hB'.out.os, hB'.out.tape, hB'.out.output, hB'.out.size, hB'.out.block⟩, k + 1, by omega, by go_num⟩
      case measure => simp [RowKit.intOf]; omega
    · have : k = xs.length := by omega
      subst this
      have hi : ¬ (xs.length : Int) < (xs.length : Int) := by omega
      go_wp2
      go_ret
      exact ⟨rfl, hB⟩

theorem en_at_row {w : World} {S : Nat → Prop} {b o : Nat} {ys : EL} (h : Row w S b o 2 (ys.map enF)) {k : Nat} {x : ByteArray × ByteArray} (hk : ys[k]? = some x) {W : World} (hW : W.heap[b]? = w.heap[b]?) : EnAt W b (o + k * 2) x := by
  have hx : (ys.map enF)[k]? = some (enF x) := by rw [List.getElem?_map, hk]; rfl
  have get : ∀ (j : Nat) (c : FV), (enF x).cells[j]? = some c → ∃ v, W.cell? ⟨b, o + k * 2 + j, none⟩ = some v ∧ FRep w S c v := fun j c hj => by
    obtain ⟨v, h1, h2⟩ := h.2 k j (enF x) c hx hj
    refine ⟨v, ?_, h2⟩
    have e : cellAt W b (o + (k * 2 + j)) = cellAt w b (o + (k * 2 + j)) := cellAt_congr hW _
    rw [h1, ← Nat.add_assoc] at e
    exact e
  refine ⟨?_, ?_⟩
  · obtain ⟨v, h1, h2⟩ := get 0 _ rfl; cases h2; exact h1
  · obtain ⟨v, h1, h2⟩ := get 1 _ rfl; cases h2; exact h1

theorem same_ok {L L' : List FV} (hL : sameExt L = some L') : Enters Tryz.prog 30 ∧ CSpec Tryz.prog 30 ⟨[.lst 2, .lst 2], [.skip, .skip, .bool], []⟩ L L' := by
  refine ⟨⟨Tryz.f30, Tryz.func30, rfl, by kernel_rfl⟩, fun w S V G hS hTb hT hgo => ?_⟩
  obtain ⟨v, V', x, L0, rfl, rfl, hlf, hfr, h0⟩ := hT
  obtain ⟨v2, V2, x2, L2, rfl, rfl, hlf2, hfr2, h0⟩ := h0
  obtain ⟨rfl, rfl, rfl⟩ := h0
  unfold sameExt at hL
  split at hL
  · rename_i xs xs' heq
    cases heq
    split at hL
    · rename_i l l' e1 e2
      split at hL
      · rename_i hc
        obtain ⟨rfl, hlen⟩ := hc
        cases hL
        obtain rfl := enO_some e1
        obtain rfl := enO_some e2
        obtain ⟨a1, cap1, b1, o1, rfl, hc1, ha1, hrow1⟩ := FRep.list_iff.1 hfr
        obtain ⟨a2, cap2, b2, o2, rfl, hc2, ha2, hrow2⟩ := FRep.list_iff.1 hfr2
        have hlen' : (l.map enF).length = l.length := List.length_map _
        have back : ∀ {w' : World}, Below w.heap.size w w' →
            ∃ S' fin' R, Ending.returned (.bool true) = .returned (resV R) ∧ TRep w' S' [.skip, .skip, .bool] ([.slice a1 l.length cap1, .slice a2 l.length cap2] ++ R) [.bool true] [] fin' ∧ Keep ⟨w, S, Given [], 0, fun _ => none⟩ w' S' ∧ GOk ⟨w, S, Given [], 0, fun _ => none⟩ w' S' fin' := fun {w'} hB =>
          ⟨S, [], [.bool true], rfl, ⟨_, _, rfl, _, _, rfl, .bool true, [], .bool true, [], rfl, rfl, trivial, .bool _, rfl, rfl, rfl⟩, keep_pure hS hTb hB, gok_nil⟩
        rw [hlen']
        by_cases hne : l = []
        · subst hne
          refine (same_nil a1 a2 cap1 cap2 w).mono ?_
          rintro e w' ⟨rfl, hB⟩
          exact back hB
        · obtain ⟨rfl, hS1⟩ := ha1 (by simpa using hne)
          obtain ⟨rfl, hS2⟩ := ha2 (by simpa using hne)
          refine (same_some b1 o1 b2 o2 cap1 cap2 l w w (Below.refl _ _) hlen ⟨fun k x hk W hW => ⟨en_at_row hrow1 hk (hW.block _ (hS _ hS1)), en_at_row hrow2 hk (hW.block _ (hS _ hS2))⟩⟩).mono ?_
          rintro e w' ⟨rfl, hB⟩
          exact back hB
      · cases hL
    · cases hL
  · cases hL

theorem readExt_ok {L L' : List FV} (hL : readExt L = some L') : Enters Tryz.prog 66 ∧ CSpec Tryz.prog 66 ⟨[.lst 2], [.skip, .skip, .int .i64], ((fnT 66).getD ⟨[], [], []⟩).ann⟩ L L' := by
  unfold readExt at hL
  split at hL
  · rename_i xs
    split at hL
    · rename_i l e1
      split at hL
      · rename_i hs
        cases hL
        obtain rfl := enO_some e1
        exact evF_ok (E := EnA) envOkA extA_ok 67 _ _ _ _ readI_A (read_run (n := 66) (K := 4194304) (by omega) (small_bd hs) (Nat.le_refl _))
      · cases hL
    · cases hL
  · cases hL

end Rf
end

section
/- All contracts of the second tables hold. -/
set_option linter.unusedVariables false
namespace Rf
open Go

theorem ext2_ok : ExtOk En2 := by
  intro f g i L L' hf hi hL
  have hf : lookN f (extL ++ extN) = some g := hf
  have hi : fnT f = some i := hi
  unfold extL at hf
  simp only [List.cons_append, List.nil_append] at hf
  rcases lookN_cons hf with ⟨rfl, rfl⟩ | hf
  · rw [postI_is] at hi
    cases hi
    exact post_ok hL
  rcases lookN_cons hf with ⟨rfl, rfl⟩ | hf
  · rw [show fnT 26 = some ⟨ledT, ledT ++ [.lst 2], []⟩ by kernel_rfl] at hi
    cases hi
    exact trial_ok hL
  rcases lookN_cons hf with ⟨rfl, rfl⟩ | hf
  · rw [show fnT 30 = some ⟨[.lst 2, .lst 2], [.skip, .skip, .bool], []⟩ by kernel_rfl] at hi
    cases hi
    exact same_ok hL
  rcases lookN_cons hf with ⟨rfl, rfl⟩ | hf
  · rw [show fnT 66 = some ⟨[.lst 2], [.skip, .skip, .int .i64], ((fnT 66).getD ⟨[], [], []⟩).ann⟩ by kernel_rfl] at hi
    cases hi
    exact readExt_ok hL
  exact extN_ok hf hi hL

end Rf
end

section
/- Made by a program of this work: what each function comes to, one step of it; by the kernel. -/
set_option linter.unusedVariables false
set_option maxRecDepth 100000
set_option maxHeartbeats 4000000
namespace Rf
open Go

theorem noonbelllaw19_LedgerNames_eq (n : Nat) (s0 : ByteArray) (s1 : ByteArray) (x2 : Int) : evF En2 (n + 1) 6 [.str s0, .str s1, .int .i32 x2] = 
  (bif (decide ((s0.size : Int) > 1024)) then some [.bool true]
   else 
    (bif (decide ((s1.size : Int) > 1024)) then some [.bool true]
     else (evF En2 n 20 []).bind fun r0 => (asLst 3 (r0[0]?)).bind fun v1 => (asInt .i64 (r0[1]?)).bind fun n2 => (asInt .i64 (r0[2]?)).bind fun n3 => (evF En2 n 21 [.int .i64 (Go.IntKind.wrap .i64 x2)]).bind fun r4 => (asBool (r4[0]?)).bind fun c5 => (asLst 1 (r4[1]?)).bind fun v6 => (evF En2 n 23 [.bool c5, .list 1 v6]).bind fun r7 => (asStr (r7[0]?)).bind fun u8 => (evF En2 n 24 [.bool c5, .list 1 v6]).bind fun r9 => (asBool (r9[0]?)).bind fun c10 => (asLst 1 (r9[1]?)).bind fun v11 => (evF En2 n 23 [.bool c10, .list 1 v11]).bind fun r12 => (asStr (r12[0]?)).bind fun u13 => (evF En2 n 22 [.list 3 v1, .int .i64 n2, .int .i64 n3, .list 2 (elemsOf 2 (.agg [.str { data := #[] }, .str { data := #[] }]) [(0, (.agg [.str s0, .str u8])), (1, (.agg [.str s1, .str u13]))])]).bind fun r14 => (asLst 3 (r14[0]?)).bind fun v15 => (asInt .i64 (r14[1]?)).bind fun n16 => (asInt .i64 (r14[2]?)).bind fun n17 => (asInt .i64 (r14[3]?)).bind fun n18 => (evF En2 n 25 [.str s0]).bind fun r19 => (asBool (r19[0]?)).bind fun c20 => 
      (bif c20 then (evF En2 n 25 [.str s1]).bind fun r21 => (asBool (r21[0]?)).bind fun c22 => 
        (bif (!((n18 == 0) == c22)) then some [.bool false]
         else 
          (bif (!c22) then 
            (bif (n18 != 190) then some [.bool false]
             else (evF En2 n 26 [.list 3 v15, .int .i64 n16, .int .i64 n17]).bind fun r23 => (asLst 3 (r23[0]?)).bind fun v24 => (asInt .i64 (r23[1]?)).bind fun n25 => (asInt .i64 (r23[2]?)).bind fun n26 => (asLst 2 (r23[3]?)).bind fun v27 => 
              (bif ((v27.length : Int) != 0) then some [.bool false]
               else (evF En2 n 27 [.list 3 v24, .int .i64 n25, .int .i64 n26]).bind fun r28 => (asLst 3 (r28[0]?)).bind fun v29 => (asInt .i64 (r28[1]?)).bind fun n30 => (asInt .i64 (r28[2]?)).bind fun n31 => (asInt .i64 (r28[3]?)).bind fun n32 => 
                (bif (n32 != 0) then some [.bool false]
                 else 
                  (bif (!c22) then some [.bool true]
                   else 
                    (bif (s0.toList == s1.toList) then (evF En2 n 28 [.list 3 v29, .int .i64 n30, .int .i64 n31, .str s0]).bind fun r33 => (asLst 3 (r33[0]?)).bind fun v34 => (asInt .i64 (r33[1]?)).bind fun n35 => (asInt .i64 (r33[2]?)).bind fun n36 => (asStr (r33[3]?)).bind fun u37 => 
                      (bif (u37.toList == ({ data := #[48] } : ByteArray).toList) then (evF En2 n 26 [.list 3 v34, .int .i64 n35, .int .i64 n36]).bind fun r38 => (asLst 3 (r38[0]?)).bind fun v39 => (asInt .i64 (r38[1]?)).bind fun n40 => (asInt .i64 (r38[2]?)).bind fun n41 => (asLst 2 (r38[3]?)).bind fun v42 => some [.bool ((v42.length : Int) == 1)]
                       else some [.bool false])
                     else (evF En2 n 28 [.list 3 v29, .int .i64 n30, .int .i64 n31, .str s0]).bind fun r43 => (asLst 3 (r43[0]?)).bind fun v44 => (asInt .i64 (r43[1]?)).bind fun n45 => (asInt .i64 (r43[2]?)).bind fun n46 => (asStr (r43[3]?)).bind fun u47 => (evF En2 n 23 [.bool c5, .list 1 v6]).bind fun r48 => (asStr (r48[0]?)).bind fun u49 => 
                      (bif (u47.toList == u49.toList) then (evF En2 n 28 [.list 3 v44, .int .i64 n45, .int .i64 n46, .str s1]).bind fun r50 => (asLst 3 (r50[0]?)).bind fun v51 => (asInt .i64 (r50[1]?)).bind fun n52 => (asInt .i64 (r50[2]?)).bind fun n53 => (asStr (r50[3]?)).bind fun u54 => (evF En2 n 24 [.bool c5, .list 1 v6]).bind fun r55 => (asBool (r55[0]?)).bind fun c56 => (asLst 1 (r55[1]?)).bind fun v57 => (evF En2 n 23 [.bool c56, .list 1 v57]).bind fun r58 => (asStr (r58[0]?)).bind fun u59 => 
                        (bif (u54.toList == u59.toList) then (evF En2 n 26 [.list 3 v51, .int .i64 n52, .int .i64 n53]).bind fun r60 => (asLst 3 (r60[0]?)).bind fun v61 => (asInt .i64 (r60[1]?)).bind fun n62 => (asInt .i64 (r60[2]?)).bind fun n63 => (asLst 2 (r60[3]?)).bind fun v64 => some [.bool ((v64.length : Int) == 2)]
                         else some [.bool false])
                       else some [.bool false]))))))
           else 
            (bif (!c22) then some [.bool true]
             else 
              (bif (s0.toList == s1.toList) then (evF En2 n 28 [.list 3 v15, .int .i64 n16, .int .i64 n17, .str s0]).bind fun r65 => (asLst 3 (r65[0]?)).bind fun v66 => (asInt .i64 (r65[1]?)).bind fun n67 => (asInt .i64 (r65[2]?)).bind fun n68 => (asStr (r65[3]?)).bind fun u69 => 
                (bif (u69.toList == ({ data := #[48] } : ByteArray).toList) then (evF En2 n 26 [.list 3 v66, .int .i64 n67, .int .i64 n68]).bind fun r70 => (asLst 3 (r70[0]?)).bind fun v71 => (asInt .i64 (r70[1]?)).bind fun n72 => (asInt .i64 (r70[2]?)).bind fun n73 => (asLst 2 (r70[3]?)).bind fun v74 => some [.bool ((v74.length : Int) == 1)]
                 else some [.bool false])
               else (evF En2 n 28 [.list 3 v15, .int .i64 n16, .int .i64 n17, .str s0]).bind fun r75 => (asLst 3 (r75[0]?)).bind fun v76 => (asInt .i64 (r75[1]?)).bind fun n77 => (asInt .i64 (r75[2]?)).bind fun n78 => (asStr (r75[3]?)).bind fun u79 => (evF En2 n 23 [.bool c5, .list 1 v6]).bind fun r80 => (asStr (r80[0]?)).bind fun u81 => 
                (bif (u79.toList == u81.toList) then (evF En2 n 28 [.list 3 v76, .int .i64 n77, .int .i64 n78, .str s1]).bind fun r82 => (asLst 3 (r82[0]?)).bind fun v83 => (asInt .i64 (r82[1]?)).bind fun n84 => (asInt .i64 (r82[2]?)).bind fun n85 => (asStr (r82[3]?)).bind fun u86 => (evF En2 n 24 [.bool c5, .list 1 v6]).bind fun r87 => (asBool (r87[0]?)).bind fun c88 => (asLst 1 (r87[1]?)).bind fun v89 => (evF En2 n 23 [.bool c88, .list 1 v89]).bind fun r90 => (asStr (r90[0]?)).bind fun u91 => 
                  (bif (u86.toList == u91.toList) then (evF En2 n 26 [.list 3 v83, .int .i64 n84, .int .i64 n85]).bind fun r92 => (asLst 3 (r92[0]?)).bind fun v93 => (asInt .i64 (r92[1]?)).bind fun n94 => (asInt .i64 (r92[2]?)).bind fun n95 => (asLst 2 (r92[3]?)).bind fun v96 => some [.bool ((v96.length : Int) == 2)]
                   else some [.bool false])
                 else some [.bool false])))))
       else 
        (bif (!((n18 == 0) == false)) then some [.bool false]
         else 
          (bif (n18 != 190) then some [.bool false]
           else (evF En2 n 26 [.list 3 v15, .int .i64 n16, .int .i64 n17]).bind fun r97 => (asLst 3 (r97[0]?)).bind fun v98 => (asInt .i64 (r97[1]?)).bind fun n99 => (asInt .i64 (r97[2]?)).bind fun n100 => (asLst 2 (r97[3]?)).bind fun v101 => 
            (bif ((v101.length : Int) != 0) then some [.bool false]
             else (evF En2 n 27 [.list 3 v98, .int .i64 n99, .int .i64 n100]).bind fun r102 => (asLst 3 (r102[0]?)).bind fun v103 => (asInt .i64 (r102[1]?)).bind fun n104 => (asInt .i64 (r102[2]?)).bind fun n105 => (asInt .i64 (r102[3]?)).bind fun n106 => 
              (bif (n106 != 0) then some [.bool false]
               else some [.bool true]))))))) := by kernel_rfl
noncomputable def noonbelllaw19_LedgerPairs.l7 (n : Nat) (ms : List Nat) (m : Nat) (L : List FV) : Res := Lp En2 n 7 [1, 1, 1, 1, 1, 0, 1, 0] ms m L
noncomputable def noonbelllaw19_LedgerPairs.l19 (n : Nat) (ms : List Nat) (m : Nat) (L : List FV) : Res := Lp En2 n 7 [1, 1, 1, 1, 1, 1, 0, 1, 0] ms m L
theorem noonbelllaw19_LedgerPairs.l7_eq (n m : Nat) (l0 : List FV) (e1 : List FV) (x1 : Int) (x2 : Int) (l3 : List FV) (l4 : List FV) (x5 : Int) : noonbelllaw19_LedgerPairs.l7 n [] (m + 1) [.list 1 l0, .list 3 e1, .int .i64 x1, .int .i64 x2, .list 1 l3, .list 1 l4, .int .i64 x5] = 
  (bif (decide (x5 < (l0.length : Int))) then (ix x5 l0.length).bind fun i0 => (asInt .u16 (at' l0 i0 0)).bind fun n1 => (ix x5 l0.length).bind fun i2 => (asInt .u16 (at' l0 i2 0)).bind fun n3 => (ix x5 l0.length).bind fun i4 => (asInt .u16 (at' l0 i4 0)).bind fun n5 => (evF En2 n 21 [.int .i64 (Go.IntKind.wrap .i64 (Int.tdiv (Go.IntKind.wrap .i64 n5) 9))]).bind fun r6 => (asBool (r6[0]?)).bind fun c7 => (asLst 1 (r6[1]?)).bind fun v8 => (ix (Int.tmod (Go.IntKind.wrap .i64 n1) 3) l3.length).bind fun i9 => (asStr (at' l3 i9 0)).bind fun u10 => (evF En2 n 24 [.bool c7, .list 1 v8]).bind fun r11 => (asBool (r11[0]?)).bind fun c12 => (asLst 1 (r11[1]?)).bind fun v13 => (evF En2 n 23 [.bool c12, .list 1 v13]).bind fun r14 => (asStr (r14[0]?)).bind fun u15 => (ix (Int.tmod (Go.IntKind.wrap .i64 (Int.tdiv (Go.IntKind.wrap .i64 n3) 3)) 3) l3.length).bind fun i16 => (asStr (at' l3 i16 0)).bind fun u17 => (evF En2 n 23 [.bool c7, .list 1 v8]).bind fun r18 => (asStr (r18[0]?)).bind fun u19 => (evF En2 n 22 [.list 3 e1, .int .i64 x1, .int .i64 x2, .list 2 (elemsOf 2 (.agg [.str { data := #[] }, .str { data := #[] }]) [(0, (.agg [.str u10, .str u15])), (1, (.agg [.str u17, .str u19]))])]).bind fun r20 => (asLst 3 (r20[0]?)).bind fun v21 => (asInt .i64 (r20[1]?)).bind fun n22 => (asInt .i64 (r20[2]?)).bind fun n23 => (asInt .i64 (r20[3]?)).bind fun n24 => (ix (Int.tmod (Go.IntKind.wrap .i64 n1) 3) l4.length).bind fun i25 => (asInt .i64 (at' l4 i25 0)).bind fun n26 => (ix (Int.tmod (Go.IntKind.wrap .i64 n1) 3) l4.length).bind fun i27 => (ix (Int.tmod (Go.IntKind.wrap .i64 (Int.tdiv (Go.IntKind.wrap .i64 n3) 3)) 3) (List.set l4 i27 (.int .i64 (Go.IntKind.wrap .i64 (n26 - (Go.IntKind.wrap .i64 (Int.tdiv (Go.IntKind.wrap .i64 n5) 9)))))).length).bind fun i28 => (asInt .i64 (at' (List.set l4 i27 (.int .i64 (Go.IntKind.wrap .i64 (n26 - (Go.IntKind.wrap .i64 (Int.tdiv (Go.IntKind.wrap .i64 n5) 9)))))) i28 0)).bind fun n29 => (ix (Int.tmod (Go.IntKind.wrap .i64 (Int.tdiv (Go.IntKind.wrap .i64 n3) 3)) 3) (List.set l4 i27 (.int .i64 (Go.IntKind.wrap .i64 (n26 - (Go.IntKind.wrap .i64 (Int.tdiv (Go.IntKind.wrap .i64 n5) 9)))))).length).bind fun i30 => 
    (bif (n24 != 0) then some [.bool false]
     else noonbelllaw19_LedgerPairs.l7 n [] m [.list 1 l0, .list 3 v21, .int .i64 n22, .int .i64 n23, .list 1 l3, .list 1 (List.set (List.set l4 i27 (.int .i64 (Go.IntKind.wrap .i64 (n26 - (Go.IntKind.wrap .i64 (Int.tdiv (Go.IntKind.wrap .i64 n5) 9)))))) i30 (.int .i64 (Go.IntKind.wrap .i64 (n29 + (Go.IntKind.wrap .i64 (Int.tdiv (Go.IntKind.wrap .i64 n5) 9)))))), .int .i64 (Go.IntKind.wrap .i64 (x5 + 1))])
   else noonbelllaw19_LedgerPairs.l19 n [] n [.list 1 l0, .list 3 e1, .int .i64 x1, .int .i64 x2, .list 1 l3, .list 1 l4, .int .i64 0]) := by kernel_rfl
theorem noonbelllaw19_LedgerPairs.l19_eq (n m : Nat) (l0 : List FV) (e1 : List FV) (x1 : Int) (x2 : Int) (l3 : List FV) (l4 : List FV) (x5 : Int) : noonbelllaw19_LedgerPairs.l19 n [] (m + 1) [.list 1 l0, .list 3 e1, .int .i64 x1, .int .i64 x2, .list 1 l3, .list 1 l4, .int .i64 x5] = 
  (bif (decide (x5 < 3)) then (ix x5 l3.length).bind fun i0 => (asStr (at' l3 i0 0)).bind fun u1 => (evF En2 n 28 [.list 3 e1, .int .i64 x1, .int .i64 x2, .str u1]).bind fun r2 => (asLst 3 (r2[0]?)).bind fun v3 => (asInt .i64 (r2[1]?)).bind fun n4 => (asInt .i64 (r2[2]?)).bind fun n5 => (asStr (r2[3]?)).bind fun u6 => (ix x5 l4.length).bind fun i7 => (asInt .i64 (at' l4 i7 0)).bind fun n8 => (evF En2 n 21 [.int .i64 n8]).bind fun r9 => (asBool (r9[0]?)).bind fun c10 => (asLst 1 (r9[1]?)).bind fun v11 => (evF En2 n 23 [.bool c10, .list 1 v11]).bind fun r12 => (asStr (r12[0]?)).bind fun u13 => 
    (bif (!(u6.toList == u13.toList)) then some [.bool false]
     else noonbelllaw19_LedgerPairs.l19 n [] m [.list 1 l0, .list 3 v3, .int .i64 n4, .int .i64 n5, .list 1 l3, .list 1 l4, .int .i64 (Go.IntKind.wrap .i64 (x5 + 1))])
   else (evF En2 n 27 [.list 3 e1, .int .i64 x1, .int .i64 x2]).bind fun r14 => (asLst 3 (r14[0]?)).bind fun v15 => (asInt .i64 (r14[1]?)).bind fun n16 => (asInt .i64 (r14[2]?)).bind fun n17 => (asInt .i64 (r14[3]?)).bind fun n18 => 
    (bif (n18 == (l0.length : Int)) then (evF En2 n 26 [.list 3 v15, .int .i64 n16, .int .i64 n17]).bind fun r19 => (asLst 3 (r19[0]?)).bind fun v20 => (asInt .i64 (r19[1]?)).bind fun n21 => (asInt .i64 (r19[2]?)).bind fun n22 => (asLst 2 (r19[3]?)).bind fun v23 => some [.bool (decide ((v23.length : Int) ≤ 3))]
     else some [.bool false])) := by kernel_rfl
theorem noonbelllaw19_LedgerPairs_eq (n : Nat) (l0 : List FV) : evF En2 (n + 1) 7 [.list 1 l0] = 
  (bif (decide ((l0.length : Int) > 256)) then some [.bool true]
   else (evF En2 n 20 []).bind fun r0 => (asLst 3 (r0[0]?)).bind fun v1 => (asInt .i64 (r0[1]?)).bind fun n2 => (asInt .i64 (r0[2]?)).bind fun n3 => noonbelllaw19_LedgerPairs.l7 n [] n [.list 1 l0, .list 3 v1, .int .i64 n2, .int .i64 n3, .list 1 (elemsOf 3 (.str { data := #[] }) [(0, (.str { data := #[97] })), (1, (.str { data := #[98] })), (2, (.str { data := #[99] }))]), .list 1 (elemsOf 3 (.int .i64 0) [(0, (.int .i64 0)), (1, (.int .i64 0)), (2, (.int .i64 0))]), .int .i64 0]) := by kernel_rfl
noncomputable def noonbelllaw19_LedgerSums.l5 (n : Nat) (ms : List Nat) (m : Nat) (L : List FV) : Res := Lp En2 n 8 [1, 1, 1, 0, 1, 0] ms m L
noncomputable def noonbelllaw19_LedgerSums.l14 (n : Nat) (ms : List Nat) (m : Nat) (L : List FV) : Res := Lp En2 n 8 [1, 1, 1, 0, 1, 0, 0, 1, 0, 0, 1, 1, 1, 1, 1, 0, 1, 0] ms m L
theorem noonbelllaw19_LedgerSums.l5_eq (n m : Nat) (l0 : List FV) (e1 : List FV) (x1 : Int) (x2 : Int) (x3 : Int) : noonbelllaw19_LedgerSums.l5 n [] (m + 1) [.list 1 l0, .list 3 e1, .int .i64 x1, .int .i64 x2, .int .i64 x3] = 
  (bif (decide (x3 < (l0.length : Int))) then (evF En2 n 26 [.list 3 e1, .int .i64 x1, .int .i64 x2]).bind fun r0 => (asLst 3 (r0[0]?)).bind fun v1 => (asInt .i64 (r0[1]?)).bind fun n2 => (asInt .i64 (r0[2]?)).bind fun n3 => (asLst 2 (r0[3]?)).bind fun v4 => (ix x3 l0.length).bind fun i5 => (asLst 2 (at' l0 i5 0)).bind fun v6 => (evF En2 n 22 [.list 3 v1, .int .i64 n2, .int .i64 n3, .list 2 v6]).bind fun r7 => (asLst 3 (r7[0]?)).bind fun v8 => (asInt .i64 (r7[1]?)).bind fun n9 => (asInt .i64 (r7[2]?)).bind fun n10 => (asInt .i64 (r7[3]?)).bind fun n11 => (evF En2 n 26 [.list 3 v8, .int .i64 n9, .int .i64 n10]).bind fun r12 => (asLst 3 (r12[0]?)).bind fun v13 => (asInt .i64 (r12[1]?)).bind fun n14 => (asInt .i64 (r12[2]?)).bind fun n15 => (asLst 2 (r12[3]?)).bind fun v16 => 
    (bif (n11 != 0) then (evF En2 n 30 [.list 2 v4, .list 2 v16]).bind fun r17 => (asBool (r17[0]?)).bind fun c18 => 
      (bif (!c18) then some [.bool false]
       else 
        (bif (n11 == 0) then (ix x3 l0.length).bind fun i19 => (asLst 2 (at' l0 i19 0)).bind fun v20 => 
          (bif ((v20.length : Int) == 0) then some [.bool false]
           else (evF En2 n 21 [.int .i64 0]).bind fun r21 => (asBool (r21[0]?)).bind fun c22 => (asLst 1 (r21[1]?)).bind fun v23 => noonbelllaw19_LedgerSums.l14 n [m] n [.bool c22, .list 1 v23, .list 1 l0, .list 3 v13, .int .i64 n14, .int .i64 n15, .int .i64 x3, .list 2 v16, .int .i64 0])
         else (evF En2 n 21 [.int .i64 0]).bind fun r24 => (asBool (r24[0]?)).bind fun c25 => (asLst 1 (r24[1]?)).bind fun v26 => noonbelllaw19_LedgerSums.l14 n [m] n [.bool c25, .list 1 v26, .list 1 l0, .list 3 v13, .int .i64 n14, .int .i64 n15, .int .i64 x3, .list 2 v16, .int .i64 0]))
     else 
      (bif (n11 == 0) then (ix x3 l0.length).bind fun i27 => (asLst 2 (at' l0 i27 0)).bind fun v28 => 
        (bif ((v28.length : Int) == 0) then some [.bool false]
         else (evF En2 n 21 [.int .i64 0]).bind fun r29 => (asBool (r29[0]?)).bind fun c30 => (asLst 1 (r29[1]?)).bind fun v31 => noonbelllaw19_LedgerSums.l14 n [m] n [.bool c30, .list 1 v31, .list 1 l0, .list 3 v13, .int .i64 n14, .int .i64 n15, .int .i64 x3, .list 2 v16, .int .i64 0])
       else (evF En2 n 21 [.int .i64 0]).bind fun r32 => (asBool (r32[0]?)).bind fun c33 => (asLst 1 (r32[1]?)).bind fun v34 => noonbelllaw19_LedgerSums.l14 n [m] n [.bool c33, .list 1 v34, .list 1 l0, .list 3 v13, .int .i64 n14, .int .i64 n15, .int .i64 x3, .list 2 v16, .int .i64 0]))
   else (evF En2 n 27 [.list 3 e1, .int .i64 x1, .int .i64 x2]).bind fun r35 => (asLst 3 (r35[0]?)).bind fun v36 => (asInt .i64 (r35[1]?)).bind fun n37 => (asInt .i64 (r35[2]?)).bind fun n38 => (asInt .i64 (r35[3]?)).bind fun n39 => 
    (bif (decide (n39 ≤ (l0.length : Int))) then (evF En2 n 28 [.list 3 v36, .int .i64 n37, .int .i64 n38, .str { data := #[] }]).bind fun r40 => (asLst 3 (r40[0]?)).bind fun v41 => (asInt .i64 (r40[1]?)).bind fun n42 => (asInt .i64 (r40[2]?)).bind fun n43 => (asStr (r40[3]?)).bind fun u44 => some [.bool (u44.toList == ({ data := #[48] } : ByteArray).toList)]
     else some [.bool false])) := by kernel_rfl
theorem noonbelllaw19_LedgerSums.l14_eq (n m m0 : Nat) (b0 : Bool) (l1 : List FV) (l2 : List FV) (e3 : List FV) (x3 : Int) (x4 : Int) (x5 : Int) (l6 : List FV) (x7 : Int) : noonbelllaw19_LedgerSums.l14 n [m0] (m + 1) [.bool b0, .list 1 l1, .list 1 l2, .list 3 e3, .int .i64 x3, .int .i64 x4, .int .i64 x5, .list 2 l6, .int .i64 x7] = 
  (bif (decide (x7 < (l6.length : Int))) then (ix x7 l6.length).bind fun i0 => (asStr (at' l6 i0 1)).bind fun u1 => (evF En2 n 31 [.str u1]).bind fun r2 => (asBool (r2[0]?)).bind fun c3 => (asLst 1 (r2[1]?)).bind fun v4 => (asInt .i64 (r2[2]?)).bind fun n5 => 
    (bif (n5 != 0) then some [.bool false]
     else (ix x7 l6.length).bind fun i6 => (asStr (at' l6 i6 0)).bind fun u7 => (evF En2 n 28 [.list 3 e3, .int .i64 x3, .int .i64 x4, .str u7]).bind fun r8 => (asLst 3 (r8[0]?)).bind fun v9 => (asInt .i64 (r8[1]?)).bind fun n10 => (asInt .i64 (r8[2]?)).bind fun n11 => (asStr (r8[3]?)).bind fun u12 => (ix x7 l6.length).bind fun i13 => (asStr (at' l6 i13 1)).bind fun u14 => 
      (bif (!(u12.toList == u14.toList)) then some [.bool false]
       else 
        (bif (decide (x7 > 0)) then (ix (Go.IntKind.wrap .i64 (x7 - 1)) l6.length).bind fun i15 => (asStr (at' l6 i15 0)).bind fun u16 => (ix x7 l6.length).bind fun i17 => (asStr (at' l6 i17 0)).bind fun u18 => 
          (bif (!(Go.Op.bytesLess u16.toList u18.toList)) then some [.bool false]
           else (evF En2 n 32 [.bool b0, .list 1 l1, .bool c3, .list 1 v4]).bind fun r19 => (asBool (r19[0]?)).bind fun c20 => (asLst 1 (r19[1]?)).bind fun v21 => noonbelllaw19_LedgerSums.l14 n [m0] m [.bool c20, .list 1 v21, .list 1 l2, .list 3 v9, .int .i64 n10, .int .i64 n11, .int .i64 x5, .list 2 l6, .int .i64 (Go.IntKind.wrap .i64 (x7 + 1))])
         else (evF En2 n 32 [.bool b0, .list 1 l1, .bool c3, .list 1 v4]).bind fun r22 => (asBool (r22[0]?)).bind fun c23 => (asLst 1 (r22[1]?)).bind fun v24 => noonbelllaw19_LedgerSums.l14 n [m0] m [.bool c23, .list 1 v24, .list 1 l2, .list 3 v9, .int .i64 n10, .int .i64 n11, .int .i64 x5, .list 2 l6, .int .i64 (Go.IntKind.wrap .i64 (x7 + 1))])))
   else (evF En2 n 33 [.bool b0, .list 1 l1]).bind fun r25 => (asInt .i64 (r25[0]?)).bind fun n26 => 
    (bif (n26 != 0) then some [.bool false]
     else noonbelllaw19_LedgerSums.l5 n [] m0 [.list 1 l2, .list 3 e3, .int .i64 x3, .int .i64 x4, .int .i64 (Go.IntKind.wrap .i64 (x5 + 1))])) := by kernel_rfl
theorem noonbelllaw19_LedgerSums_eq (n : Nat) (l0 : List FV) : evF En2 (n + 1) 8 [.list 1 l0] = (evF En2 n 29 [.list 1 l0]).bind fun r0 => (asBool (r0[0]?)).bind fun c1 => 
  (bif c1 then some [.bool true]
   else (evF En2 n 20 []).bind fun r2 => (asLst 3 (r2[0]?)).bind fun v3 => (asInt .i64 (r2[1]?)).bind fun n4 => (asInt .i64 (r2[2]?)).bind fun n5 => noonbelllaw19_LedgerSums.l5 n [] n [.list 1 l0, .list 3 v3, .int .i64 n4, .int .i64 n5, .int .i64 0]) := by kernel_rfl
noncomputable def noonbelllaw19_LedgerOrder.l6 (n : Nat) (ms : List Nat) (m : Nat) (L : List FV) : Res := Lp En2 n 9 [1, 1, 1, 1, 0, 1, 0] ms m L
noncomputable def noonbelllaw19_LedgerOrder.l13 (n : Nat) (ms : List Nat) (m : Nat) (L : List FV) : Res := Lp En2 n 9 [1, 1, 1, 1, 1, 0, 1, 0] ms m L
noncomputable def noonbelllaw19_LedgerOrder.l19 (n : Nat) (ms : List Nat) (m : Nat) (L : List FV) : Res := Lp En2 n 9 [1, 1, 1, 1, 1, 1, 1, 0, 1, 0] ms m L
noncomputable def noonbelllaw19_LedgerOrder.l23 (n : Nat) (ms : List Nat) (m : Nat) (L : List FV) : Res := Lp En2 n 9 [1, 1, 1, 1, 1, 1, 1, 0, 1, 0, 0, 1, 0, 0, 1, 0, 1, 0] ms m L
theorem noonbelllaw19_LedgerOrder.l6_eq (n m : Nat) (l0 : List FV) (e1 : List FV) (x1 : Int) (x2 : Int) (e3 : List FV) (x3 : Int) (x4 : Int) (x5 : Int) : noonbelllaw19_LedgerOrder.l6 n [] (m + 1) [.list 1 l0, .list 3 e1, .int .i64 x1, .int .i64 x2, .list 3 e3, .int .i64 x3, .int .i64 x4, .int .i64 x5] = 
  (bif (decide (x5 < (l0.length : Int))) then (ix x5 l0.length).bind fun i0 => (asLst 2 (at' l0 i0 0)).bind fun v1 => (evF En2 n 22 [.list 3 e1, .int .i64 x1, .int .i64 x2, .list 2 v1]).bind fun r2 => (asLst 3 (r2[0]?)).bind fun v3 => (asInt .i64 (r2[1]?)).bind fun n4 => (asInt .i64 (r2[2]?)).bind fun n5 => (asInt .i64 (r2[3]?)).bind fun n6 => (ix x5 l0.length).bind fun i7 => (asLst 2 (at' l0 i7 0)).bind fun v8 => (evF En2 n 34 [.list 3 [], .int .i64 0, .list 2 v8]).bind fun r9 => (asLst 3 (r9[0]?)).bind fun v10 => (asInt .i64 (r9[1]?)).bind fun n11 => (asInt .i64 (r9[2]?)).bind fun n12 => 
    (bif (n6 != n12) then some [.bool false]
     else noonbelllaw19_LedgerOrder.l6 n [] m [.list 1 l0, .list 3 v3, .int .i64 n4, .int .i64 n5, .list 3 e3, .int .i64 x3, .int .i64 x4, .int .i64 (Go.IntKind.wrap .i64 (x5 + 1))])
   else noonbelllaw19_LedgerOrder.l13 n [] n [.list 1 l0, .list 3 e1, .int .i64 x1, .int .i64 x2, .list 3 e3, .int .i64 x3, .int .i64 x4, .int .i64 (Go.IntKind.wrap .i64 ((l0.length : Int) - 1))]) := by kernel_rfl
theorem noonbelllaw19_LedgerOrder.l13_eq (n m : Nat) (l0 : List FV) (e1 : List FV) (x1 : Int) (x2 : Int) (e3 : List FV) (x3 : Int) (x4 : Int) (x5 : Int) : noonbelllaw19_LedgerOrder.l13 n [] (m + 1) [.list 1 l0, .list 3 e1, .int .i64 x1, .int .i64 x2, .list 3 e3, .int .i64 x3, .int .i64 x4, .int .i64 x5] = 
  (bif (decide (x5 ≥ 0)) then (ix x5 l0.length).bind fun i0 => (asLst 2 (at' l0 i0 0)).bind fun v1 => (evF En2 n 22 [.list 3 e3, .int .i64 x3, .int .i64 x4, .list 2 v1]).bind fun r2 => (asLst 3 (r2[0]?)).bind fun v3 => (asInt .i64 (r2[1]?)).bind fun n4 => (asInt .i64 (r2[2]?)).bind fun n5 => (asInt .i64 (r2[3]?)).bind fun n6 => noonbelllaw19_LedgerOrder.l13 n [] m [.list 1 l0, .list 3 e1, .int .i64 x1, .int .i64 x2, .list 3 v3, .int .i64 n4, .int .i64 n5, .int .i64 (Go.IntKind.wrap .i64 (x5 - 1))]
   else (evF En2 n 26 [.list 3 e1, .int .i64 x1, .int .i64 x2]).bind fun r7 => (asLst 3 (r7[0]?)).bind fun v8 => (asInt .i64 (r7[1]?)).bind fun n9 => (asInt .i64 (r7[2]?)).bind fun n10 => (asLst 2 (r7[3]?)).bind fun v11 => (evF En2 n 26 [.list 3 e3, .int .i64 x3, .int .i64 x4]).bind fun r12 => (asLst 3 (r12[0]?)).bind fun v13 => (asInt .i64 (r12[1]?)).bind fun n14 => (asInt .i64 (r12[2]?)).bind fun n15 => (asLst 2 (r12[3]?)).bind fun v16 => (evF En2 n 30 [.list 2 v11, .list 2 v16]).bind fun r17 => (asBool (r17[0]?)).bind fun c18 => 
    (bif (!c18) then some [.bool false]
     else (evF En2 n 27 [.list 3 v8, .int .i64 n9, .int .i64 n10]).bind fun r19 => (asLst 3 (r19[0]?)).bind fun v20 => (asInt .i64 (r19[1]?)).bind fun n21 => (asInt .i64 (r19[2]?)).bind fun n22 => (asInt .i64 (r19[3]?)).bind fun n23 => (evF En2 n 27 [.list 3 v13, .int .i64 n14, .int .i64 n15]).bind fun r24 => (asLst 3 (r24[0]?)).bind fun v25 => (asInt .i64 (r24[1]?)).bind fun n26 => (asInt .i64 (r24[2]?)).bind fun n27 => (asInt .i64 (r24[3]?)).bind fun n28 => 
      (bif (n23 != n28) then some [.bool false]
       else noonbelllaw19_LedgerOrder.l19 n [] n [.list 1 l0, .list 3 v20, .int .i64 n21, .int .i64 n22, .list 3 v25, .int .i64 n26, .int .i64 n27, .int .i64 0]))) := by kernel_rfl
theorem noonbelllaw19_LedgerOrder.l19_eq (n m : Nat) (l0 : List FV) (e1 : List FV) (x1 : Int) (x2 : Int) (e3 : List FV) (x3 : Int) (x4 : Int) (x5 : Int) : noonbelllaw19_LedgerOrder.l19 n [] (m + 1) [.list 1 l0, .list 3 e1, .int .i64 x1, .int .i64 x2, .list 3 e3, .int .i64 x3, .int .i64 x4, .int .i64 x5] = 
  (bif (decide (x5 < (l0.length : Int))) then noonbelllaw19_LedgerOrder.l23 n [m] n [.list 1 l0, .list 3 e1, .int .i64 x1, .int .i64 x2, .list 3 e3, .int .i64 x3, .int .i64 x4, .int .i64 x5, .list 2 (elemsOf 0 (.agg [.str { data := #[] }, .str { data := #[] }]) []), .int .i64 0]
   else (evF En2 n 26 [.list 3 e1, .int .i64 x1, .int .i64 x2]).bind fun r0 => (asLst 3 (r0[0]?)).bind fun v1 => (asInt .i64 (r0[1]?)).bind fun n2 => (asInt .i64 (r0[2]?)).bind fun n3 => (asLst 2 (r0[3]?)).bind fun v4 => (evF En2 n 26 [.list 3 e3, .int .i64 x3, .int .i64 x4]).bind fun r5 => (asLst 3 (r5[0]?)).bind fun v6 => (asInt .i64 (r5[1]?)).bind fun n7 => (asInt .i64 (r5[2]?)).bind fun n8 => (asLst 2 (r5[3]?)).bind fun v9 => (evF En2 n 30 [.list 2 v4, .list 2 v9]).bind fun r10 => (asBool (r10[0]?)).bind fun c11 => some [.bool c11]) := by kernel_rfl
theorem noonbelllaw19_LedgerOrder.l23_eq (n m m0 : Nat) (l0 : List FV) (e1 : List FV) (x1 : Int) (x2 : Int) (e3 : List FV) (x3 : Int) (x4 : Int) (x5 : Int) (l6 : List FV) (x7 : Int) : noonbelllaw19_LedgerOrder.l23 n [m0] (m + 1) [.list 1 l0, .list 3 e1, .int .i64 x1, .int .i64 x2, .list 3 e3, .int .i64 x3, .int .i64 x4, .int .i64 x5, .list 2 l6, .int .i64 x7] = (ix x5 l0.length).bind fun i0 => (asLst 2 (at' l0 i0 0)).bind fun v1 => 
  (bif (decide (x7 < (v1.length : Int))) then (ix x5 l0.length).bind fun i2 => (asLst 2 (at' l0 i2 0)).bind fun v3 => (ix x7 v3.length).bind fun i4 => (asStr (at' v3 i4 1)).bind fun u5 => (evF En2 n 31 [.str u5]).bind fun r6 => (asBool (r6[0]?)).bind fun c7 => (asLst 1 (r6[1]?)).bind fun v8 => (asInt .i64 (r6[2]?)).bind fun n9 => 
    (bif (n9 == 0) then (ix x5 l0.length).bind fun i10 => (asLst 2 (at' l0 i10 0)).bind fun v11 => (ix x7 v11.length).bind fun i12 => (asStr (at' v11 i12 0)).bind fun u13 => (evF En2 n 24 [.bool c7, .list 1 v8]).bind fun r14 => (asBool (r14[0]?)).bind fun c15 => (asLst 1 (r14[1]?)).bind fun v16 => (evF En2 n 23 [.bool c15, .list 1 v16]).bind fun r17 => (asStr (r17[0]?)).bind fun u18 => 
      (bif (Nat.ble (l6.length + (elemsOf 1 (.agg [.str { data := #[] }, .str { data := #[] }]) [(0, (.agg [.str u13, .str u18]))]).length) 4398046511104) then noonbelllaw19_LedgerOrder.l23 n [m0] m [.list 1 l0, .list 3 e1, .int .i64 x1, .int .i64 x2, .list 3 e3, .int .i64 x3, .int .i64 x4, .int .i64 x5, .list 2 (l6 ++ (elemsOf 1 (.agg [.str { data := #[] }, .str { data := #[] }]) [(0, (.agg [.str u13, .str u18]))])), .int .i64 (Go.IntKind.wrap .i64 (x7 + 1))]
       else none)
     else noonbelllaw19_LedgerOrder.l23 n [m0] m [.list 1 l0, .list 3 e1, .int .i64 x1, .int .i64 x2, .list 3 e3, .int .i64 x3, .int .i64 x4, .int .i64 x5, .list 2 l6, .int .i64 (Go.IntKind.wrap .i64 (x7 + 1))])
   else (ix x5 l0.length).bind fun i19 => (asLst 2 (at' l0 i19 0)).bind fun v20 => 
    (bif ((l6.length : Int) == (v20.length : Int)) then (ix x5 l0.length).bind fun i21 => (asLst 2 (at' l0 i21 0)).bind fun v22 => (evF En2 n 22 [.list 3 e1, .int .i64 x1, .int .i64 x2, .list 2 v22]).bind fun r23 => (asLst 3 (r23[0]?)).bind fun v24 => (asInt .i64 (r23[1]?)).bind fun n25 => (asInt .i64 (r23[2]?)).bind fun n26 => (asInt .i64 (r23[3]?)).bind fun n27 => (evF En2 n 22 [.list 3 v24, .int .i64 n25, .int .i64 n26, .list 2 l6]).bind fun r28 => (asLst 3 (r28[0]?)).bind fun v29 => (asInt .i64 (r28[1]?)).bind fun n30 => (asInt .i64 (r28[2]?)).bind fun n31 => (asInt .i64 (r28[3]?)).bind fun n32 => 
      (bif (!((n27 == 0) == (n32 == 0))) then some [.bool false]
       else noonbelllaw19_LedgerOrder.l19 n [] m0 [.list 1 l0, .list 3 v29, .int .i64 n30, .int .i64 n31, .list 3 e3, .int .i64 x3, .int .i64 x4, .int .i64 (Go.IntKind.wrap .i64 (x5 + 1))])
     else noonbelllaw19_LedgerOrder.l19 n [] m0 [.list 1 l0, .list 3 e1, .int .i64 x1, .int .i64 x2, .list 3 e3, .int .i64 x3, .int .i64 x4, .int .i64 (Go.IntKind.wrap .i64 (x5 + 1))])) := by kernel_rfl
theorem noonbelllaw19_LedgerOrder_eq (n : Nat) (l0 : List FV) : evF En2 (n + 1) 9 [.list 1 l0] = (evF En2 n 29 [.list 1 l0]).bind fun r0 => (asBool (r0[0]?)).bind fun c1 => 
  (bif c1 then some [.bool true]
   else (evF En2 n 20 []).bind fun r2 => (asLst 3 (r2[0]?)).bind fun v3 => (asInt .i64 (r2[1]?)).bind fun n4 => (asInt .i64 (r2[2]?)).bind fun n5 => (evF En2 n 20 []).bind fun r6 => (asLst 3 (r6[0]?)).bind fun v7 => (asInt .i64 (r6[1]?)).bind fun n8 => (asInt .i64 (r6[2]?)).bind fun n9 => noonbelllaw19_LedgerOrder.l6 n [] n [.list 1 l0, .list 3 v3, .int .i64 n4, .int .i64 n5, .list 3 v7, .int .i64 n8, .int .i64 n9, .int .i64 0]) := by kernel_rfl
noncomputable def noonbelllaw19_LedgerScript.l8 (n : Nat) (ms : List Nat) (m : Nat) (L : List FV) : Res := Lp En2 n 10 [1, 1, 1, 1, 1, 0, 1, 0] ms m L
noncomputable def noonbelllaw19_LedgerScript.l14 (n : Nat) (ms : List Nat) (m : Nat) (L : List FV) : Res := Lp En2 n 10 [1, 1, 1, 1, 1, 0, 1, 0, 0, 1, 0, 0, 1, 1, 1, 0] ms m L
theorem noonbelllaw19_LedgerScript.l8_eq (n m : Nat) (l0 : List FV) (s1 : ByteArray) (e2 : List FV) (x2 : Int) (x3 : Int) (l4 : List FV) (x5 : Int) (x6 : Int) : noonbelllaw19_LedgerScript.l8 n [] (m + 1) [.list 1 l0, .str s1, .list 3 e2, .int .i64 x2, .int .i64 x3, .list 3 l4, .int .i64 x5, .int .i64 x6] = 
  (bif (decide (x6 < (l0.length : Int))) then (ix x6 l0.length).bind fun i0 => (asLst 2 (at' l0 i0 0)).bind fun v1 => (evF En2 n 36 [.list 3 e2, .int .i64 x2, .int .i64 x3, .list 2 v1]).bind fun r2 => (asLst 3 (r2[0]?)).bind fun v3 => (asInt .i64 (r2[1]?)).bind fun n4 => (asInt .i64 (r2[2]?)).bind fun n5 => (asInt .i64 (r2[3]?)).bind fun n6 => (ix x6 l0.length).bind fun i7 => (asLst 2 (at' l0 i7 0)).bind fun v8 => (evF En2 n 36 [.list 3 v3, .int .i64 n4, .int .i64 n5, .list 2 v8]).bind fun r9 => (asLst 3 (r9[0]?)).bind fun v10 => (asInt .i64 (r9[1]?)).bind fun n11 => (asInt .i64 (r9[2]?)).bind fun n12 => (asInt .i64 (r9[3]?)).bind fun n13 => 
    (bif (n6 != n13) then some [.bool false]
     else (ix x6 l0.length).bind fun i14 => (asLst 2 (at' l0 i14 0)).bind fun v15 => (evF En2 n 22 [.list 3 v10, .int .i64 n11, .int .i64 n12, .list 2 v15]).bind fun r16 => (asLst 3 (r16[0]?)).bind fun v17 => (asInt .i64 (r16[1]?)).bind fun n18 => (asInt .i64 (r16[2]?)).bind fun n19 => (asInt .i64 (r16[3]?)).bind fun n20 => 
      (bif (n6 != n20) then some [.bool false]
       else (ix x6 l0.length).bind fun i21 => (asLst 2 (at' l0 i21 0)).bind fun v22 => (evF En2 n 34 [.list 3 l4, .int .i64 x5, .list 2 v22]).bind fun r23 => (asLst 3 (r23[0]?)).bind fun v24 => (asInt .i64 (r23[1]?)).bind fun n25 => (asInt .i64 (r23[2]?)).bind fun n26 => 
        (bif (n6 != n26) then some [.bool false]
         else (evF En2 n 26 [.list 3 v17, .int .i64 n18, .int .i64 n19]).bind fun r27 => (asLst 3 (r27[0]?)).bind fun v28 => (asInt .i64 (r27[1]?)).bind fun n29 => (asInt .i64 (r27[2]?)).bind fun n30 => (asLst 2 (r27[3]?)).bind fun v31 => (evF En2 n 37 [.list 3 v24, .int .i64 n25]).bind fun r32 => (asLst 3 (r32[0]?)).bind fun v33 => (asInt .i64 (r32[1]?)).bind fun n34 => (asLst 2 (r32[2]?)).bind fun v35 => (evF En2 n 30 [.list 2 v31, .list 2 v35]).bind fun r36 => (asBool (r36[0]?)).bind fun c37 => 
          (bif (!c37) then some [.bool false]
           else (evF En2 n 27 [.list 3 v28, .int .i64 n29, .int .i64 n30]).bind fun r38 => (asLst 3 (r38[0]?)).bind fun v39 => (asInt .i64 (r38[1]?)).bind fun n40 => (asInt .i64 (r38[2]?)).bind fun n41 => (asInt .i64 (r38[3]?)).bind fun n42 => 
            (bif (n42 != n34) then some [.bool false]
             else (evF En2 n 28 [.list 3 v39, .int .i64 n40, .int .i64 n41, .str s1]).bind fun r43 => (asLst 3 (r43[0]?)).bind fun v44 => (asInt .i64 (r43[1]?)).bind fun n45 => (asInt .i64 (r43[2]?)).bind fun n46 => (asStr (r43[3]?)).bind fun u47 => (evF En2 n 38 [.list 3 v33, .int .i64 n34, .str s1]).bind fun r48 => (asLst 3 (r48[0]?)).bind fun v49 => (asInt .i64 (r48[1]?)).bind fun n50 => (asStr (r48[2]?)).bind fun u51 => 
              (bif (!(u47.toList == u51.toList)) then some [.bool false]
               else noonbelllaw19_LedgerScript.l14 n [m] n [.list 1 l0, .str s1, .list 3 v44, .int .i64 n45, .int .i64 n46, .list 3 v49, .int .i64 n50, .int .i64 x6, .int .i64 0]))))))
   else some [.bool true]) := by kernel_rfl
theorem noonbelllaw19_LedgerScript.l14_eq (n m m0 : Nat) (l0 : List FV) (s1 : ByteArray) (e2 : List FV) (x2 : Int) (x3 : Int) (l4 : List FV) (x5 : Int) (x6 : Int) (x7 : Int) : noonbelllaw19_LedgerScript.l14 n [m0] (m + 1) [.list 1 l0, .str s1, .list 3 e2, .int .i64 x2, .int .i64 x3, .list 3 l4, .int .i64 x5, .int .i64 x6, .int .i64 x7] = (ix x6 l0.length).bind fun i0 => (asLst 2 (at' l0 i0 0)).bind fun v1 => 
  (bif (decide (x7 < (v1.length : Int))) then (ix x6 l0.length).bind fun i2 => (asLst 2 (at' l0 i2 0)).bind fun v3 => (ix x7 v3.length).bind fun i4 => (asStr (at' v3 i4 0)).bind fun u5 => (evF En2 n 28 [.list 3 e2, .int .i64 x2, .int .i64 x3, .str u5]).bind fun r6 => (asLst 3 (r6[0]?)).bind fun v7 => (asInt .i64 (r6[1]?)).bind fun n8 => (asInt .i64 (r6[2]?)).bind fun n9 => (asStr (r6[3]?)).bind fun u10 => (ix x6 l0.length).bind fun i11 => (asLst 2 (at' l0 i11 0)).bind fun v12 => (ix x7 v12.length).bind fun i13 => (asStr (at' v12 i13 0)).bind fun u14 => (evF En2 n 38 [.list 3 l4, .int .i64 x5, .str u14]).bind fun r15 => (asLst 3 (r15[0]?)).bind fun v16 => (asInt .i64 (r15[1]?)).bind fun n17 => (asStr (r15[2]?)).bind fun u18 => 
    (bif (!(u10.toList == u18.toList)) then some [.bool false]
     else (ix x6 l0.length).bind fun i19 => (asLst 2 (at' l0 i19 0)).bind fun v20 => (ix x7 v20.length).bind fun i21 => (asStr (at' v20 i21 0)).bind fun u22 => (evF En2 n 35 [.str u22]).bind fun r23 => (asBool (r23[0]?)).bind fun c24 => (ix x6 l0.length).bind fun i25 => (asLst 2 (at' l0 i25 0)).bind fun v26 => (ix x7 v26.length).bind fun i27 => (asStr (at' v26 i27 0)).bind fun u28 => (evF En2 n 25 [.str u28]).bind fun r29 => (asBool (r29[0]?)).bind fun c30 => 
      (bif (!(c24 == c30)) then some [.bool false]
       else noonbelllaw19_LedgerScript.l14 n [m0] m [.list 1 l0, .str s1, .list 3 v7, .int .i64 n8, .int .i64 n9, .list 3 v16, .int .i64 n17, .int .i64 x6, .int .i64 (Go.IntKind.wrap .i64 (x7 + 1))]))
   else noonbelllaw19_LedgerScript.l8 n [] m0 [.list 1 l0, .str s1, .list 3 e2, .int .i64 x2, .int .i64 x3, .list 3 l4, .int .i64 x5, .int .i64 (Go.IntKind.wrap .i64 (x6 + 1))]) := by kernel_rfl
theorem noonbelllaw19_LedgerScript_eq (n : Nat) (l0 : List FV) (s1 : ByteArray) : evF En2 (n + 1) 10 [.list 1 l0, .str s1] = (evF En2 n 29 [.list 1 l0]).bind fun r0 => (asBool (r0[0]?)).bind fun c1 => 
  (bif c1 then some [.bool true]
   else 
    (bif (decide ((s1.size : Int) > 4096)) then some [.bool true]
     else (evF En2 n 20 []).bind fun r2 => (asLst 3 (r2[0]?)).bind fun v3 => (asInt .i64 (r2[1]?)).bind fun n4 => (asInt .i64 (r2[2]?)).bind fun n5 => (evF En2 n 35 [.str s1]).bind fun r6 => (asBool (r6[0]?)).bind fun c7 => (evF En2 n 25 [.str s1]).bind fun r8 => (asBool (r8[0]?)).bind fun c9 => 
      (bif (!(c7 == c9)) then some [.bool false]
       else noonbelllaw19_LedgerScript.l8 n [] n [.list 1 l0, .str s1, .list 3 v3, .int .i64 n4, .int .i64 n5, .list 3 [], .int .i64 0, .int .i64 0]))) := by kernel_rfl
theorem ledger_New_eq (n : Nat)  : evF En2 (n + 1) 20 [] = some [.list 3 [], .int .i64 0, .int .i64 0] := by kernel_rfl
theorem ledger_Ledger_Len_eq (n : Nat) (e0 : List FV) (x0 : Int) (x1 : Int) : evF En2 (n + 1) 27 [.list 3 e0, .int .i64 x0, .int .i64 x1] = some [.list 3 e0, .int .i64 x0, .int .i64 x1, .int .i64 x1] := by kernel_rfl
theorem ledger_Ledger_Balance_eq (n : Nat) (e0 : List FV) (x0 : Int) (x1 : Int) (s2 : ByteArray) : evF En2 (n + 1) 28 [.list 3 e0, .int .i64 x0, .int .i64 x1, .str s2] = (asLst 1 (at' [mgetD e0 (.str s2) (.agg [.list 1 [], .bool false])] 0 0)).bind fun v0 => (asBool (at' [mgetD e0 (.str s2) (.agg [.list 1 [], .bool false])] 0 1)).bind fun c1 => (evF En2 n 71 [.list 1 v0, .bool c1]).bind fun r2 => (asStr (r2[0]?)).bind fun u3 => some [.list 3 e0, .int .i64 x0, .int .i64 x1, .str u3] := by kernel_rfl
noncomputable def noonbelllaw19_heavy.l3 (n : Nat) (ms : List Nat) (m : Nat) (L : List FV) : Res := Lp En2 n 29 [1, 1, 0, 1, 0] ms m L
noncomputable def noonbelllaw19_heavy.l7 (n : Nat) (ms : List Nat) (m : Nat) (L : List FV) : Res := Lp En2 n 29 [1, 1, 0, 1, 0, 0, 1, 0, 0, 1, 1, 0] ms m L
theorem noonbelllaw19_heavy.l3_eq (n m : Nat) (l0 : List FV) (x1 : Int) (x2 : Int) : noonbelllaw19_heavy.l3 n [] (m + 1) [.list 1 l0, .int .i64 x1, .int .i64 x2] = 
  (bif (decide (x2 < (l0.length : Int))) then 
    (bif (decide (x1 ≤ 4096)) then (ix x2 l0.length).bind fun i0 => (asLst 2 (at' l0 i0 0)).bind fun v1 => noonbelllaw19_heavy.l7 n [m] n [.list 1 l0, .int .i64 (Go.IntKind.wrap .i64 (x1 + (if 1048576 < (v1.length : Int) then 1048576 else (v1.length : Int)))), .int .i64 x2, .int .i64 0]
     else some [.bool (decide (x1 > 4096))])
   else some [.bool (decide (x1 > 4096))]) := by kernel_rfl
theorem noonbelllaw19_heavy.l7_eq (n m m0 : Nat) (l0 : List FV) (x1 : Int) (x2 : Int) (x3 : Int) : noonbelllaw19_heavy.l7 n [m0] (m + 1) [.list 1 l0, .int .i64 x1, .int .i64 x2, .int .i64 x3] = (ix x2 l0.length).bind fun i0 => (asLst 2 (at' l0 i0 0)).bind fun v1 => 
  (bif (decide (x3 < (v1.length : Int))) then 
    (bif (decide (x1 ≤ 4096)) then (ix x2 l0.length).bind fun i2 => (asLst 2 (at' l0 i2 0)).bind fun v3 => (ix x3 v3.length).bind fun i4 => (asStr (at' v3 i4 0)).bind fun u5 => (ix x2 l0.length).bind fun i6 => (asLst 2 (at' l0 i6 0)).bind fun v7 => (ix x3 v7.length).bind fun i8 => (asStr (at' v7 i8 1)).bind fun u9 => noonbelllaw19_heavy.l7 n [m0] m [.list 1 l0, .int .i64 (Go.IntKind.wrap .i64 (x1 + (Go.IntKind.wrap .i64 ((if 1048576 < (u5.size : Int) then 1048576 else (u5.size : Int)) + (if 1048576 < (u9.size : Int) then 1048576 else (u9.size : Int)))))), .int .i64 x2, .int .i64 (Go.IntKind.wrap .i64 (x3 + 1))]
     else noonbelllaw19_heavy.l3 n [] m0 [.list 1 l0, .int .i64 x1, .int .i64 (Go.IntKind.wrap .i64 (x2 + 1))])
   else noonbelllaw19_heavy.l3 n [] m0 [.list 1 l0, .int .i64 x1, .int .i64 (Go.IntKind.wrap .i64 (x2 + 1))]) := by kernel_rfl
theorem noonbelllaw19_heavy_eq (n : Nat) (l0 : List FV) : evF En2 (n + 1) 29 [.list 1 l0] = noonbelllaw19_heavy.l3 n [] n [.list 1 l0, .int .i64 (l0.length : Int), .int .i64 0] := by kernel_rfl
noncomputable def noonbellref19_Ledger_Post.l5 (n : Nat) (ms : List Nat) (m : Nat) (L : List FV) : Res := Lp En2 n 34 [1, 1, 1, 0, 1, 0] ms m L
noncomputable def noonbellref19_Ledger_Post.l9 (n : Nat) (ms : List Nat) (m : Nat) (L : List FV) : Res := Lp En2 n 34 [1, 1, 1, 0, 1, 0, 0, 1, 0, 0, 1, 1, 0, 0] ms m L
theorem noonbellref19_Ledger_Post.l5_eq (n m : Nat) (l0 : List FV) (x1 : Int) (l2 : List FV) (x3 : Int) : noonbellref19_Ledger_Post.l5 n [] (m + 1) [.list 3 l0, .int .i64 x1, .list 2 l2, .int .i64 x3] = 
  (bif (decide (x3 < (l2.length : Int))) then (ix x3 l2.length).bind fun i0 => (asStr (at' l2 i0 1)).bind fun u1 => (evF En2 n 31 [.str u1]).bind fun r2 => (asBool (r2[0]?)).bind fun c3 => (asLst 1 (r2[1]?)).bind fun v4 => (asInt .i64 (r2[2]?)).bind fun n5 => noonbellref19_Ledger_Post.l9 n [m] n [.list 3 l0, .int .i64 x1, .bool c3, .list 1 v4, .list 2 l2, .int .i64 x3, .int .i64 0]
   else some [.list 3 l0, .int .i64 (Go.IntKind.wrap .i64 (x1 + 1)), .int .i64 0]) := by kernel_rfl
theorem noonbellref19_Ledger_Post.l9_eq (n m m0 : Nat) (l0 : List FV) (x1 : Int) (b2 : Bool) (l3 : List FV) (l4 : List FV) (x5 : Int) (x6 : Int) : noonbellref19_Ledger_Post.l9 n [m0] (m + 1) [.list 3 l0, .int .i64 x1, .bool b2, .list 1 l3, .list 2 l4, .int .i64 x5, .int .i64 x6] = 
  (bif (decide (x6 < (l0.length : Int))) then (ix x6 l0.length).bind fun i0 => (asStr (at' l0 i0 0)).bind fun u1 => (ix x5 l4.length).bind fun i2 => (asStr (at' l4 i2 0)).bind fun u3 => 
    (bif (Go.Op.bytesLess u1.toList u3.toList) then noonbellref19_Ledger_Post.l9 n [m0] m [.list 3 l0, .int .i64 x1, .bool b2, .list 1 l3, .list 2 l4, .int .i64 x5, .int .i64 (Go.IntKind.wrap .i64 (x6 + 1))]
     else 
      (bif (decide (x6 < (l0.length : Int))) then (ix x6 l0.length).bind fun i4 => (asStr (at' l0 i4 0)).bind fun u5 => (ix x5 l4.length).bind fun i6 => (asStr (at' l4 i6 0)).bind fun u7 => 
        (bif (u5.toList == u7.toList) then (ix x6 l0.length).bind fun i8 => (asBool (at' l0 i8 1)).bind fun c9 => (asLst 1 (at' l0 i8 2)).bind fun v10 => (evF En2 n 32 [.bool c9, .list 1 v10, .bool b2, .list 1 l3]).bind fun r11 => (asBool (r11[0]?)).bind fun c12 => (asLst 1 (r11[1]?)).bind fun v13 => (ix x6 l0.length).bind fun i14 => noonbellref19_Ledger_Post.l5 n [] m0 [.list 3 (setCs l0 i14 1 [(.bool c12), (.list 1 v13)]), .int .i64 x1, .list 2 l4, .int .i64 (Go.IntKind.wrap .i64 (x5 + 1))]
         else (bd x6 (Rf.viewOf Option.none l0.length).snd).bind fun i15 => 
          (bif (Nat.ble ((elemsOf 0 (.agg [.str { data := #[] }, .bool false, .list 1 []]) []).length + (List.take (i15 - 0) (List.drop ((Rf.viewOf Option.none l0.length).fst + 0) l0)).length) 2932031007402) then (ix x5 l4.length).bind fun i16 => (asStr (at' l4 i16 0)).bind fun u17 => 
            (bif (Nat.ble (((elemsOf 0 (.agg [.str { data := #[] }, .bool false, .list 1 []]) []) ++ (List.take (i15 - 0) (List.drop ((Rf.viewOf Option.none l0.length).fst + 0) l0))).length + (elemsOf 1 (.agg [.str { data := #[] }, .bool false, .list 1 []]) [(0, (.agg [.str u17, .bool b2, .list 1 l3]))]).length) 2932031007402) then (bd x6 (Rf.viewOf Option.none l0.length).snd).bind fun i18 => 
              (bif (Nat.ble ((((elemsOf 0 (.agg [.str { data := #[] }, .bool false, .list 1 []]) []) ++ (List.take (i15 - 0) (List.drop ((Rf.viewOf Option.none l0.length).fst + 0) l0))) ++ (elemsOf 1 (.agg [.str { data := #[] }, .bool false, .list 1 []]) [(0, (.agg [.str u17, .bool b2, .list 1 l3]))])).length + (List.take ((Rf.viewOf Option.none l0.length).snd - i18) (List.drop ((Rf.viewOf Option.none l0.length).fst + i18) l0)).length) 2932031007402) then noonbellref19_Ledger_Post.l5 n [] m0 [.list 3 ((((elemsOf 0 (.agg [.str { data := #[] }, .bool false, .list 1 []]) []) ++ (List.take (i15 - 0) (List.drop ((Rf.viewOf Option.none l0.length).fst + 0) l0))) ++ (elemsOf 1 (.agg [.str { data := #[] }, .bool false, .list 1 []]) [(0, (.agg [.str u17, .bool b2, .list 1 l3]))])) ++ (List.take ((Rf.viewOf Option.none l0.length).snd - i18) (List.drop ((Rf.viewOf Option.none l0.length).fst + i18) l0))), .int .i64 x1, .list 2 l4, .int .i64 (Go.IntKind.wrap .i64 (x5 + 1))]
               else none)
             else none)
           else none))
       else (bd x6 (Rf.viewOf Option.none l0.length).snd).bind fun i19 => 
        (bif (Nat.ble ((elemsOf 0 (.agg [.str { data := #[] }, .bool false, .list 1 []]) []).length + (List.take (i19 - 0) (List.drop ((Rf.viewOf Option.none l0.length).fst + 0) l0)).length) 2932031007402) then (ix x5 l4.length).bind fun i20 => (asStr (at' l4 i20 0)).bind fun u21 => 
          (bif (Nat.ble (((elemsOf 0 (.agg [.str { data := #[] }, .bool false, .list 1 []]) []) ++ (List.take (i19 - 0) (List.drop ((Rf.viewOf Option.none l0.length).fst + 0) l0))).length + (elemsOf 1 (.agg [.str { data := #[] }, .bool false, .list 1 []]) [(0, (.agg [.str u21, .bool b2, .list 1 l3]))]).length) 2932031007402) then (bd x6 (Rf.viewOf Option.none l0.length).snd).bind fun i22 => 
            (bif (Nat.ble ((((elemsOf 0 (.agg [.str { data := #[] }, .bool false, .list 1 []]) []) ++ (List.take (i19 - 0) (List.drop ((Rf.viewOf Option.none l0.length).fst + 0) l0))) ++ (elemsOf 1 (.agg [.str { data := #[] }, .bool false, .list 1 []]) [(0, (.agg [.str u21, .bool b2, .list 1 l3]))])).length + (List.take ((Rf.viewOf Option.none l0.length).snd - i22) (List.drop ((Rf.viewOf Option.none l0.length).fst + i22) l0)).length) 2932031007402) then noonbellref19_Ledger_Post.l5 n [] m0 [.list 3 ((((elemsOf 0 (.agg [.str { data := #[] }, .bool false, .list 1 []]) []) ++ (List.take (i19 - 0) (List.drop ((Rf.viewOf Option.none l0.length).fst + 0) l0))) ++ (elemsOf 1 (.agg [.str { data := #[] }, .bool false, .list 1 []]) [(0, (.agg [.str u21, .bool b2, .list 1 l3]))])) ++ (List.take ((Rf.viewOf Option.none l0.length).snd - i22) (List.drop ((Rf.viewOf Option.none l0.length).fst + i22) l0))), .int .i64 x1, .list 2 l4, .int .i64 (Go.IntKind.wrap .i64 (x5 + 1))]
             else none)
           else none)
         else none)))
   else 
    (bif (decide (x6 < (l0.length : Int))) then (ix x6 l0.length).bind fun i23 => (asStr (at' l0 i23 0)).bind fun u24 => (ix x5 l4.length).bind fun i25 => (asStr (at' l4 i25 0)).bind fun u26 => 
      (bif (u24.toList == u26.toList) then (ix x6 l0.length).bind fun i27 => (asBool (at' l0 i27 1)).bind fun c28 => (asLst 1 (at' l0 i27 2)).bind fun v29 => (evF En2 n 32 [.bool c28, .list 1 v29, .bool b2, .list 1 l3]).bind fun r30 => (asBool (r30[0]?)).bind fun c31 => (asLst 1 (r30[1]?)).bind fun v32 => (ix x6 l0.length).bind fun i33 => noonbellref19_Ledger_Post.l5 n [] m0 [.list 3 (setCs l0 i33 1 [(.bool c31), (.list 1 v32)]), .int .i64 x1, .list 2 l4, .int .i64 (Go.IntKind.wrap .i64 (x5 + 1))]
       else (bd x6 (Rf.viewOf Option.none l0.length).snd).bind fun i34 => 
        (bif (Nat.ble ((elemsOf 0 (.agg [.str { data := #[] }, .bool false, .list 1 []]) []).length + (List.take (i34 - 0) (List.drop ((Rf.viewOf Option.none l0.length).fst + 0) l0)).length) 2932031007402) then (ix x5 l4.length).bind fun i35 => (asStr (at' l4 i35 0)).bind fun u36 => 
          (bif (Nat.ble (((elemsOf 0 (.agg [.str { data := #[] }, .bool false, .list 1 []]) []) ++ (List.take (i34 - 0) (List.drop ((Rf.viewOf Option.none l0.length).fst + 0) l0))).length + (elemsOf 1 (.agg [.str { data := #[] }, .bool false, .list 1 []]) [(0, (.agg [.str u36, .bool b2, .list 1 l3]))]).length) 2932031007402) then (bd x6 (Rf.viewOf Option.none l0.length).snd).bind fun i37 => 
            (bif (Nat.ble ((((elemsOf 0 (.agg [.str { data := #[] }, .bool false, .list 1 []]) []) ++ (List.take (i34 - 0) (List.drop ((Rf.viewOf Option.none l0.length).fst + 0) l0))) ++ (elemsOf 1 (.agg [.str { data := #[] }, .bool false, .list 1 []]) [(0, (.agg [.str u36, .bool b2, .list 1 l3]))])).length + (List.take ((Rf.viewOf Option.none l0.length).snd - i37) (List.drop ((Rf.viewOf Option.none l0.length).fst + i37) l0)).length) 2932031007402) then noonbellref19_Ledger_Post.l5 n [] m0 [.list 3 ((((elemsOf 0 (.agg [.str { data := #[] }, .bool false, .list 1 []]) []) ++ (List.take (i34 - 0) (List.drop ((Rf.viewOf Option.none l0.length).fst + 0) l0))) ++ (elemsOf 1 (.agg [.str { data := #[] }, .bool false, .list 1 []]) [(0, (.agg [.str u36, .bool b2, .list 1 l3]))])) ++ (List.take ((Rf.viewOf Option.none l0.length).snd - i37) (List.drop ((Rf.viewOf Option.none l0.length).fst + i37) l0))), .int .i64 x1, .list 2 l4, .int .i64 (Go.IntKind.wrap .i64 (x5 + 1))]
             else none)
           else none)
         else none))
     else (bd x6 (Rf.viewOf Option.none l0.length).snd).bind fun i38 => 
      (bif (Nat.ble ((elemsOf 0 (.agg [.str { data := #[] }, .bool false, .list 1 []]) []).length + (List.take (i38 - 0) (List.drop ((Rf.viewOf Option.none l0.length).fst + 0) l0)).length) 2932031007402) then (ix x5 l4.length).bind fun i39 => (asStr (at' l4 i39 0)).bind fun u40 => 
        (bif (Nat.ble (((elemsOf 0 (.agg [.str { data := #[] }, .bool false, .list 1 []]) []) ++ (List.take (i38 - 0) (List.drop ((Rf.viewOf Option.none l0.length).fst + 0) l0))).length + (elemsOf 1 (.agg [.str { data := #[] }, .bool false, .list 1 []]) [(0, (.agg [.str u40, .bool b2, .list 1 l3]))]).length) 2932031007402) then (bd x6 (Rf.viewOf Option.none l0.length).snd).bind fun i41 => 
          (bif (Nat.ble ((((elemsOf 0 (.agg [.str { data := #[] }, .bool false, .list 1 []]) []) ++ (List.take (i38 - 0) (List.drop ((Rf.viewOf Option.none l0.length).fst + 0) l0))) ++ (elemsOf 1 (.agg [.str { data := #[] }, .bool false, .list 1 []]) [(0, (.agg [.str u40, .bool b2, .list 1 l3]))])).length + (List.take ((Rf.viewOf Option.none l0.length).snd - i41) (List.drop ((Rf.viewOf Option.none l0.length).fst + i41) l0)).length) 2932031007402) then noonbellref19_Ledger_Post.l5 n [] m0 [.list 3 ((((elemsOf 0 (.agg [.str { data := #[] }, .bool false, .list 1 []]) []) ++ (List.take (i38 - 0) (List.drop ((Rf.viewOf Option.none l0.length).fst + 0) l0))) ++ (elemsOf 1 (.agg [.str { data := #[] }, .bool false, .list 1 []]) [(0, (.agg [.str u40, .bool b2, .list 1 l3]))])) ++ (List.take ((Rf.viewOf Option.none l0.length).snd - i41) (List.drop ((Rf.viewOf Option.none l0.length).fst + i41) l0))), .int .i64 x1, .list 2 l4, .int .i64 (Go.IntKind.wrap .i64 (x5 + 1))]
           else none)
         else none)
       else none))) := by kernel_rfl
theorem noonbellref19_Ledger_Post_eq (n : Nat) (l0 : List FV) (x1 : Int) (l2 : List FV) : evF En2 (n + 1) 34 [.list 3 l0, .int .i64 x1, .list 2 l2] = (evF En2 n 76 [.list 3 l0, .int .i64 x1, .list 2 l2]).bind fun r0 => (asLst 3 (r0[0]?)).bind fun v1 => (asInt .i64 (r0[1]?)).bind fun n2 => (asInt .i64 (r0[2]?)).bind fun n3 => 
  (bif (n3 != 0) then some [.list 3 v1, .int .i64 n2, .int .i64 n3]
   else noonbellref19_Ledger_Post.l5 n [] n [.list 3 v1, .int .i64 n2, .list 2 l2, .int .i64 0]) := by kernel_rfl
theorem ledger_Ledger_May_eq (n : Nat) (e0 : List FV) (x0 : Int) (x1 : Int) (l2 : List FV) : evF En2 (n + 1) 36 [.list 3 e0, .int .i64 x0, .int .i64 x1, .list 2 l2] = (evF En2 n 66 [.list 2 l2]).bind fun r0 => (asInt .i64 (r0[0]?)).bind fun n1 => some [.list 3 e0, .int .i64 x0, .int .i64 x1, .int .i64 n1] := by kernel_rfl
noncomputable def noonbellref19_Ledger_Trial.l3 (n : Nat) (ms : List Nat) (m : Nat) (L : List FV) : Res := Lp En2 n 37 [1, 1, 0, 1, 0] ms m L
theorem noonbellref19_Ledger_Trial.l3_eq (n m : Nat) (l0 : List FV) (x1 : Int) (l2 : List FV) (x3 : Int) : noonbellref19_Ledger_Trial.l3 n [] (m + 1) [.list 3 l0, .int .i64 x1, .list 2 l2, .int .i64 x3] = 
  (bif (decide (x3 < (l0.length : Int))) then (ix x3 l0.length).bind fun i0 => (asStr (at' l0 i0 0)).bind fun u1 => (ix x3 l0.length).bind fun i2 => (asBool (at' l0 i2 1)).bind fun c3 => (asLst 1 (at' l0 i2 2)).bind fun v4 => (evF En2 n 23 [.bool c3, .list 1 v4]).bind fun r5 => (asStr (r5[0]?)).bind fun u6 => 
    (bif (Nat.ble (l2.length + (elemsOf 1 (.agg [.str { data := #[] }, .str { data := #[] }]) [(0, (.agg [.str u1, .str u6]))]).length) 4398046511104) then noonbellref19_Ledger_Trial.l3 n [] m [.list 3 l0, .int .i64 x1, .list 2 (l2 ++ (elemsOf 1 (.agg [.str { data := #[] }, .str { data := #[] }]) [(0, (.agg [.str u1, .str u6]))])), .int .i64 (Go.IntKind.wrap .i64 (x3 + 1))]
     else none)
   else some [.list 3 l0, .int .i64 x1, .list 2 l2]) := by kernel_rfl
theorem noonbellref19_Ledger_Trial_eq (n : Nat) (l0 : List FV) (x1 : Int) : evF En2 (n + 1) 37 [.list 3 l0, .int .i64 x1] = noonbellref19_Ledger_Trial.l3 n [] n [.list 3 l0, .int .i64 x1, .list 2 (elemsOf 0 (.agg [.str { data := #[] }, .str { data := #[] }]) []), .int .i64 0] := by kernel_rfl
noncomputable def noonbellref19_Ledger_Balance.l2 (n : Nat) (ms : List Nat) (m : Nat) (L : List FV) : Res := Lp En2 n 38 [1, 0, 1, 0] ms m L
theorem noonbellref19_Ledger_Balance.l2_eq (n m : Nat) (l0 : List FV) (x1 : Int) (s2 : ByteArray) (x3 : Int) : noonbellref19_Ledger_Balance.l2 n [] (m + 1) [.list 3 l0, .int .i64 x1, .str s2, .int .i64 x3] = 
  (bif (decide (x3 < (l0.length : Int))) then (ix x3 l0.length).bind fun i0 => (asStr (at' l0 i0 0)).bind fun u1 => 
    (bif (u1.toList == s2.toList) then (ix x3 l0.length).bind fun i2 => (asBool (at' l0 i2 1)).bind fun c3 => (asLst 1 (at' l0 i2 2)).bind fun v4 => (evF En2 n 23 [.bool c3, .list 1 v4]).bind fun r5 => (asStr (r5[0]?)).bind fun u6 => some [.list 3 l0, .int .i64 x1, .str u6]
     else noonbellref19_Ledger_Balance.l2 n [] m [.list 3 l0, .int .i64 x1, .str s2, .int .i64 (Go.IntKind.wrap .i64 (x3 + 1))])
   else some [.list 3 l0, .int .i64 x1, .str { data := #[48] }]) := by kernel_rfl
theorem noonbellref19_Ledger_Balance_eq (n : Nat) (l0 : List FV) (x1 : Int) (s2 : ByteArray) : evF En2 (n + 1) 38 [.list 3 l0, .int .i64 x1, .str s2] = noonbellref19_Ledger_Balance.l2 n [] n [.list 3 l0, .int .i64 x1, .str s2, .int .i64 0] := by kernel_rfl
noncomputable def noonbellref19_Ledger_May.l7 (n : Nat) (ms : List Nat) (m : Nat) (L : List FV) : Res := Lp En2 n 76 [1, 1, 1, 1, 0, 1, 0] ms m L
theorem noonbellref19_Ledger_May.l7_eq (n m : Nat) (l0 : List FV) (x1 : Int) (b2 : Bool) (l3 : List FV) (l4 : List FV) (x5 : Int) : noonbellref19_Ledger_May.l7 n [] (m + 1) [.list 3 l0, .int .i64 x1, .bool b2, .list 1 l3, .list 2 l4, .int .i64 x5] = 
  (bif (decide (x5 < (l4.length : Int))) then (ix x5 l4.length).bind fun i0 => (asStr (at' l4 i0 0)).bind fun u1 => (evF En2 n 25 [.str u1]).bind fun r2 => (asBool (r2[0]?)).bind fun c3 => 
    (bif (!c3) then some [.list 3 l0, .int .i64 x1, .int .i64 190]
     else (ix x5 l4.length).bind fun i4 => (asStr (at' l4 i4 1)).bind fun u5 => (evF En2 n 31 [.str u5]).bind fun r6 => (asBool (r6[0]?)).bind fun c7 => (asLst 1 (r6[1]?)).bind fun v8 => (asInt .i64 (r6[2]?)).bind fun n9 => 
      (bif (n9 != 0) then some [.list 3 l0, .int .i64 x1, .int .i64 10]
       else (evF En2 n 32 [.bool b2, .list 1 l3, .bool c7, .list 1 v8]).bind fun r10 => (asBool (r10[0]?)).bind fun c11 => (asLst 1 (r10[1]?)).bind fun v12 => noonbellref19_Ledger_May.l7 n [] m [.list 3 l0, .int .i64 x1, .bool c11, .list 1 v12, .list 2 l4, .int .i64 (Go.IntKind.wrap .i64 (x5 + 1))]))
   else (evF En2 n 33 [.bool b2, .list 1 l3]).bind fun r13 => (asInt .i64 (r13[0]?)).bind fun n14 => 
    (bif (n14 != 0) then some [.list 3 l0, .int .i64 x1, .int .i64 191]
     else some [.list 3 l0, .int .i64 x1, .int .i64 0])) := by kernel_rfl
theorem noonbellref19_Ledger_May_eq (n : Nat) (l0 : List FV) (x1 : Int) (l2 : List FV) : evF En2 (n + 1) 76 [.list 3 l0, .int .i64 x1, .list 2 l2] = 
  (bif ((l2.length : Int) == 0) then some [.list 3 l0, .int .i64 x1, .int .i64 1]
   else 
    (bif (decide ((l2.length : Int) > 64)) then some [.list 3 l0, .int .i64 x1, .int .i64 82]
     else (evF En2 n 21 [.int .i64 0]).bind fun r0 => (asBool (r0[0]?)).bind fun c1 => (asLst 1 (r0[1]?)).bind fun v2 => noonbellref19_Ledger_May.l7 n [] n [.list 3 l0, .int .i64 x1, .bool c1, .list 1 v2, .list 2 l2, .int .i64 0])) := by kernel_rfl

end Rf
end

section
/- A ledger's functions by what they come to: accounts as a list of names that rise. -/
set_option linter.unusedSimpArgs false
set_option linter.unusedVariables false
set_option maxHeartbeats 2000000
namespace Rf
open Go

/-- a ledger's leaves -/
structure Led (S : LS) (P : Nat) : Prop where
  asc : Asc S
  lim : Lim S P
  len : S.length ≤ 1000000
  key : ∀ p, p ∈ S → p.1.length ≤ 1048576

theorem e2_new (n : Nat) : evF En2 (n + 1) 20 [] = some [.list 3 (stE []), .int .i64 0, .int .i64 0] := ledger_New_eq n
theorem e2_len (n : Nat) (e0 : List FV) (x0 x1 : Int) : evF En2 (n + 1) 27 [.list 3 e0, .int .i64 x0, .int .i64 x1] = some [.list 3 e0, .int .i64 x0, .int .i64 x1, .int .i64 x1] := ledger_Ledger_Len_eq n e0 x0 x1

theorem post_run {n : Nat} {es xs : List FV} {c k : Int} : evF En2 (n + 1) 22 [.list 3 es, .int .i64 c, .int .i64 k, .list 2 xs] = postExt [.list 3 es, .int .i64 c, .int .i64 k, .list 2 xs] := by kernel_rfl
theorem trial_run {n : Nat} {es : List FV} {c k : Int} : evF En2 (n + 1) 26 [.list 3 es, .int .i64 c, .int .i64 k] = trialExt [.list 3 es, .int .i64 c, .int .i64 k] := by kernel_rfl
theorem same_run {n : Nat} {xs ys : List FV} : evF En2 (n + 1) 30 [.list 2 xs, .list 2 ys] = sameExt [.list 2 xs, .list 2 ys] := by kernel_rfl
theorem read2_run {n : Nat} {xs : List FV} : evF En2 (n + 1) 66 [.list 2 xs] = readExt [.list 2 xs] := by kernel_rfl

theorem post_bad {n : Nat} {S : LS} {c k e : Int} {l : EL} (hS : Led S (2 ^ 1000000)) (hk : 0 ≤ k) (hk1 : k ≤ 1000000) (hl : smallE l = true) (h : rdL l = .inl e) :
    evF En2 (n + 1) 22 [.list 3 (stE S), .int .i64 c, .int .i64 k, .list 2 (l.map enF)] = some [.list 3 (stE S), .int .i64 c, .int .i64 k, .int .i64 e] := by
  rw [post_run]
  simp only [postExt, stO_stE hS.asc, enO_map]
  rw [if_pos ⟨hl, hS.lim, hk, hk1⟩, h]
theorem post_good {n : Nat} {S : LS} {c k : Int} {l : EL} {q : LS} (hS : Led S (2 ^ 1000000)) (hk : 0 ≤ k) (hk1 : k ≤ 1000000) (hl : smallE l = true) (h : rdL l = .inr q) :
    evF En2 (n + 1) 22 [.list 3 (stE S), .int .i64 c, .int .i64 k, .list 2 (l.map enF)] = some [.list 3 (stE (lpost S q)), .int .i64 (-1), .int .i64 (k + 1), .int .i64 0] := by
  rw [post_run]
  simp only [postExt, stO_stE hS.asc, enO_map]
  rw [if_pos ⟨hl, hS.lim, hk, hk1⟩, h]
/-- a trial balance -/
def tL (S : LS) : EL := S.map fun p => (txt p.1, txt (ztext p.2))
theorem tL_fv (S : LS) : (S.map fun p => FV.agg [.str (txt p.1), .str (txt (ztext p.2))]) = (tL S).map enF := by
  unfold tL
  rw [List.map_map]
  rfl
theorem e2_trial {n : Nat} {S : LS} {c k : Int} (hS : Led S (2 ^ 1000001)) : evF En2 (n + 1) 26 [.list 3 (stE S), .int .i64 c, .int .i64 k] = some [.list 3 (stE S), .int .i64 c, .int .i64 k, .list 2 ((tL S).map enF)] := by
  rw [trial_run]
  simp only [trialExt, stO_stE hS.asc]
  rw [if_pos ⟨hS.lim, hS.len, hS.key⟩, tL_fv]
theorem e2_same {n : Nat} {l : EL} (h : l.length ≤ 1000000000) : evF En2 (n + 1) 30 [.list 2 (l.map enF), .list 2 (l.map enF)] = some [.bool true] := by
  rw [same_run]
  simp only [sameExt, enO_map, true_and]
  rw [if_pos h]
theorem e2_may {n : Nat} {es : List FV} {c k : Int} {l : EL} (hl : smallE l = true) : evF En2 (n + 2) 36 [.list 3 es, .int .i64 c, .int .i64 k, .list 2 (l.map enF)] = some [.list 3 es, .int .i64 c, .int .i64 k, .int .i64 (rdC l)] := by
  rw [ledger_Ledger_May_eq, read2_run]
  simp only [readExt, enO_map]
  rw [if_pos hl]
  rfl

theorem e2_bal {n : Nat} {S : LS} {c k : Int} {K : Nat} (hK : K + 1 ≤ 10000000000) (hS : Lim S (2 ^ K)) (q : LK) : evF En2 (n + 2) 28 [.list 3 (stE S), .int .i64 c, .int .i64 k, sK q] = some [.list 3 (stE S), .int .i64 c, .int .i64 k, sF (ztext (lget S q))] := by
  have hb : (lget S q).natAbs < 2 ^ (K + 1) := by
    have h1 := lget_lim hS q
    have h2 : 2 ^ (K + 1) = 2 ^ K * 2 := Nat.pow_succ ..
    have h3 : 0 < 2 ^ K := Nat.two_pow_pos K
    omega
  rw [ledger_Ledger_Balance_eq, show (FV.agg [.list 1 [], .bool false]) = zN 0 from zN_zero.symm, mget_stE, kOf_sK]
  simp only [zN_eq, at_one, FV.cells, List.getElem?_cons_zero, List.getElem?_cons_succ, asLst_list, asBool_bool, Option.bind_some]
  rw [e2_text hK hb, Option.bind_some]
  rfl

theorem txt_z0 : ({ data := #[48] } : ByteArray) = txt (ztext 0) := by
  have : ztext 0 = [48] := by
    have h : ztext 0 = dtext 0 := rfl
    rw [h]
    decide
  rw [this]
  rfl
theorem ztext_z0 {z : Int} : (ztext z = ztext 0) ↔ z = 0 := ⟨fun h => ztext_inj h, fun h => by rw [h]⟩

theorem pow_le_big {a b : Nat} (h : a ≤ 2 ^ b) (hb : b ≤ 1000000) : a ≤ 2 ^ 1000000 := Nat.le_trans h (pow_mono b 1000000 hb)
theorem Led.up {S : LS} (h : Led S (2 ^ 1000000)) : Led S (2 ^ 1000001) := ⟨h.asc, h.lim.mono (pow_mono 1000000 1000001 (by omega)), h.len, h.key⟩
theorem Led.nil (P : Nat) : Led [] P := ⟨List.Pairwise.nil, fun p hp => by simp at hp, by simp, fun p hp => by simp at hp⟩

end Rf
end
