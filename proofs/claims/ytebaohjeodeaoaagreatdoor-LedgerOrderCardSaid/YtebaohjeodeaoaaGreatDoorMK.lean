/- Texts of this work put together: Env2, Env3, EqRd, Rd, Rd2. -/
import Derived.Test.YtebaohjeodeaoaaGreatDoorMR
import Derived.Test.YtebaohjeodeaoaaGreatDoorMG
import Derived.Test.YtebaohjeodeaoaaGreatDoorMH
import Derived.Test.YtebaohjeodeaoaaGreatDoorMJ
import Derived.KernelRfl

section
/- The tables with numbers and ledgers as contracts. -/
set_option linter.unusedVariables false
namespace Rf
open Go

theorem Ev.det {E : Env} {f : FuncId} {L R R' : List FV} (h : Ev E f L R) (h' : Ev E f L R') : R = R' := by
  obtain ⟨n, hn⟩ := h
  obtain ⟨m, hm⟩ := h'
  exact Option.some.inj ((hn (max n m) (Nat.le_max_left ..)).symm.trans (hm _ (Nat.le_max_right ..)))

open Classical in
/-- what a function comes to -/
noncomputable def limE (f : FuncId) (L : List FV) : Option (List FV) := if h : ∃ R, Ev En f L R then some h.choose else none

theorem limE_ev {f : FuncId} {L R : List FV} (h : Ev En f L R) : limE f L = some R := by
  unfold limE
  rw [dif_pos ⟨R, h⟩]
  exact congrArg some (Ev.det (Exists.choose_spec (⟨R, h⟩ : ∃ R, Ev En f L R)) h)

theorem limE_some {f : FuncId} {L R : List FV} (h : limE f L = some R) : Ev En f L R := by
  unfold limE at h
  split at h
  · rename_i hx
    cases h
    exact hx.choose_spec
  · cases h

noncomputable def extN : List (Nat × (List FV → Option (List FV))) := [(35, acctExt), (25, acctExt),
  (79, limE 79), (67, limE 67), (110, limE 110), (71, limE 71),
  (31, limE 31), (21, limE 21), (32, limE 32),
  (24, limE 24), (33, limE 33), (23, limE 23)]

noncomputable def extL : List (Nat × (List FV → Option (List FV))) := [(22, postExt), (26, trialExt), (30, sameExt), (66, readExt)]

noncomputable def ext2 : Nat → Option (List FV → Option (List FV)) := fun f => lookN f (extL ++ extN)
noncomputable def extB : Nat → Option (List FV → Option (List FV)) := fun f => lookN f extN

/-- read, with the map that it makes told -/
def readB : FnI := ⟨((fnT 66).getD ⟨[], [], []⟩).tin, [.skip, .mapt false [.str] (.agg [.list 1 [], .bool false]), .int .i64], ((fnT 66).getD ⟨[], [], []⟩).ann⟩
def fnB : Nat → Option FnI := fun f => bif Nat.beq f 66 then some readB else fnT f

noncomputable def En2 : Env := ⟨Go.Proofs.Tryz.prog, fcT, tyT, fnT, ext2⟩
noncomputable def EnA : Env := ⟨Go.Proofs.Tryz.prog, fcT, tyT, fnT, extB⟩
noncomputable def EnB : Env := ⟨Go.Proofs.Tryz.prog, fcT, tyT, fnB, extB⟩

theorem envOk2 : EnvOk En2 := ⟨fun _ _ h => tyOk_of tyL_ok h, fun _ _ h => List.all_eq_true.1 mapL_ok _ (lookN_mem h), fun _ _ h => fcOk_of fcL_ok h, Checked.mixed Go.Proofs.Tryz.checked⟩
theorem envOkB : EnvOk EnB := ⟨fun _ _ h => tyOk_of tyL_ok h, fun _ _ h => List.all_eq_true.1 mapL_ok _ (lookN_mem h), fun _ _ h => fcOk_of fcL_ok h, Checked.mixed Go.Proofs.Tryz.checked⟩
theorem envOkA : EnvOk EnA := ⟨fun _ _ h => tyOk_of tyL_ok h, fun _ _ h => List.all_eq_true.1 mapL_ok _ (lookN_mem h), fun _ _ h => fcOk_of fcL_ok h, Checked.mixed Go.Proofs.Tryz.checked⟩

end Rf
end

section
/- The contracts of the second tables hold: numbers, names. -/
set_option linter.unusedVariables false
set_option linter.unusedSimpArgs false
namespace Rf
open Go

theorem lim_ok {f : FuncId} {i : FnI} {L L' : List FV} (hi : fnT f = some i) (h : limE f L = some L') : Enters En.P f ∧ CSpec En.P f i L L' := by
  obtain ⟨n, hn⟩ := (limE_some h).run
  exact evF_ok envOk ext_ok n f i L L' hi hn

theorem extN_ok {f : FuncId} {i : FnI} {g : List FV → Option (List FV)} {L L' : List FV} (hf : lookN f extN = some g) (hi : fnT f = some i) (hL : g L = some L') : Enters En.P f ∧ CSpec En.P f i L L' := by
  have this := hf
  unfold extN at this
  rcases lookN_cons this with ⟨rfl, rfl⟩ | this
  · rw [show fnT 35 = some ⟨[.str], [.skip, .bool], []⟩ by kernel_rfl] at hi
    cases hi
    exact acct1_ok rfl hL
  rcases lookN_cons this with ⟨rfl, rfl⟩ | this
  · rw [show fnT 25 = some ⟨[.str], [.skip, .bool], []⟩ by kernel_rfl] at hi
    cases hi
    exact acct2_ok rfl hL
  iterate 10
    rcases lookN_cons this with ⟨rfl, rfl⟩ | this
    · exact lim_ok hi hL
  cases this

theorem extA_ok : ExtOk EnA := fun f g i L L' hf hi hL => extN_ok (f := f) hf hi hL

theorem extB_ok : ExtOk EnB := by
  intro f g i L L' hf hi hL
  have hf : lookN f extN = some g := hf
  have hi : fnB f = some i := hi
  unfold fnB at hi
  cases hb : Nat.beq f 66 with
  | true =>
    obtain rfl := Nat.eq_of_beq_eq_true hb
    have : lookN 66 extN = none := by kernel_rfl
    rw [this] at hf
    cases hf
  | false =>
    rw [hb, cond_false] at hi
    exact extN_ok hf hi hL

end Rf
end

section
/- Made by a program of this work: what each function comes to, one step of it; by the kernel. -/
set_option linter.unusedVariables false
set_option maxRecDepth 100000
set_option maxHeartbeats 4000000
namespace Rf
open Go

noncomputable def ledger_read.l8 (n : Nat) (ms : List Nat) (m : Nat) (L : List FV) : Res := Lp EnA n 66 [1, 1, 1, 1, 0, 1, 0] ms m L
theorem ledger_read.l8_eq (n m : Nat) (l0 : List FV) (b1 : Bool) (e2 : List FV) (x2 : Int) (l3 : List FV) (x4 : Int) (x5 : Int) : ledger_read.l8 n [] (m + 1) [.list 1 l0, .bool b1, .list 3 e2, .int .i64 x2, .list 2 l3, .int .i64 x4, .int .i64 x5] = 
  (bif (decide (x5 < x4)) then (ix x5 l3.length).bind fun i0 => (asStr (at' l3 i0 0)).bind fun u1 => (asStr (at' l3 i0 1)).bind fun u2 => (evF EnA n 79 [.str u2]).bind fun r3 => (asLst 1 (r3[0]?)).bind fun v4 => (asBool (r3[1]?)).bind fun c5 => (asInt .i64 (r3[2]?)).bind fun n6 => (evF EnA n 35 [.str u1]).bind fun r7 => (asBool (r7[0]?)).bind fun c8 => 
    (bif (!c8) then some [.int .i64 190]
     else 
      (bif (n6 != 0) then some [.int .i64 10]
       else (asLst 1 (at' [mgetD e2 (.str u1) (.agg [.list 1 [], .bool false])] 0 0)).bind fun v9 => (asBool (at' [mgetD e2 (.str u1) (.agg [.list 1 [], .bool false])] 0 1)).bind fun c10 => (evF EnA n 67 [.list 1 v9, .bool c10, .list 1 v4, .bool c5]).bind fun r11 => (asLst 1 (r11[0]?)).bind fun v12 => (asBool (r11[1]?)).bind fun c13 => 
        (bif (decide (0 ≤ x2)) then (evF EnA n 67 [.list 1 l0, .bool b1, .list 1 v4, .bool c5]).bind fun r14 => (asLst 1 (r14[0]?)).bind fun v15 => (asBool (r14[1]?)).bind fun c16 => ledger_read.l8 n [] m [.list 1 v15, .bool c16, .list 3 (mput e2 (.str u1) (.agg [.list 1 v12, .bool c13]) x2), .int .i64 (mclk e2 (.str u1) x2), .list 2 l3, .int .i64 x4, .int .i64 (Go.IntKind.wrap .i64 (x5 + 1))]
         else none)))
   else (evF EnA n 110 [.list 1 l0, .bool b1]).bind fun r17 => (asInt .i64 (r17[0]?)).bind fun n18 => 
    (bif (n18 != 0) then some [.int .i64 191]
     else some [.int .i64 0])) := by kernel_rfl
theorem ledger_read_eq (n : Nat) (l0 : List FV) : evF EnA (n + 1) 66 [.list 2 l0] = 
  (bif ((l0.length : Int) == 0) then some [.int .i64 1]
   else 
    (bif (decide ((l0.length : Int) > 64)) then some [.int .i64 82]
     else ledger_read.l8 n [] n [.list 1 [], .bool false, .list 3 [], .int .i64 0, .list 2 l0, .int .i64 (l0.length : Int), .int .i64 0])) := by kernel_rfl

end Rf
end

section
/- A transaction read: by both makes; what the program's keeps of it. -/
set_option linter.unusedSimpArgs false
set_option linter.unusedVariables false
set_option maxHeartbeats 2000000
namespace Rf
open Go

theorem zN_eq (z : Int) : zN z = .agg [zl z, zb z] := rfl
theorem enF_at0 {l : EL} {i : Nat} (h : i < l.length) : asStr (at' (l.map enF) i 0) = some (l[i]).1 := by rw [at_map, List.getElem?_eq_getElem h]; rfl
theorem enF_at1 {l : EL} {i : Nat} (h : i < l.length) : asStr (at' (l.map enF) i 1) = some (l[i]).2 := by rw [at_map, List.getElem?_eq_getElem h]; rfl
theorem dsize (a : ByteArray) : a.data.toList.length = a.size := by rw [Array.length_toList]; rfl

/-! ### numbers and names as contracts -/
theorem eA_acct {n : Nat} {a : ByteArray} (h : a.size ≤ 1099511627776) : evF EnA (n + 1) 35 [.str a] = some [.bool (acct a)] := by
  have e : evF EnA (n + 1) 35 [.str a] = acctExt [.str a] := by kernel_rfl
  rw [e, acctExt, if_pos h]
theorem e2_acctR {n : Nat} {a : ByteArray} (h : a.size ≤ 1099511627776) : evF En2 (n + 1) 25 [.str a] = some [.bool (acct a)] := by
  have e : evF En2 (n + 1) 25 [.str a] = acctExt [.str a] := by kernel_rfl
  rw [e, acctExt, if_pos h]
theorem eA_parse {n : Nat} {c : ByteArray} {z : Int} (h : pz c.data.toList = some z) (hl : c.size ≤ 1000000000) : evF EnA (n + 1) 79 [.str c] = some [zl z, zb z, .int .i64 0] := by
  have e : evF EnA (n + 1) 79 [.str c] = limE 79 [.str c] := by kernel_rfl
  rw [e]; exact limE_ev (nparse_ev (l := c.data.toList) h (by rwa [dsize]))
theorem eA_parse_bad {n : Nat} {c : ByteArray} (h : pz c.data.toList = none) (hl : c.size ≤ 1000000000) : evF EnA (n + 1) 79 [.str c] = some [.list 1 [], .bool false, .int .i64 10] := by
  have e : evF EnA (n + 1) 79 [.str c] = limE 79 [.str c] := by kernel_rfl
  rw [e]; exact limE_ev (nparse_bad (l := c.data.toList) h (by rwa [dsize]))
theorem eA_add {n : Nat} {z w : Int} {k : Nat} (hk : k + 1 ≤ 100000000000) (hz : z.natAbs < 2 ^ k) (hw : w.natAbs < 2 ^ k) : evF EnA (n + 1) 67 [zl z, zb z, zl w, zb w] = some [zl (z + w), zb (z + w)] := by
  have e : evF EnA (n + 1) 67 [zl z, zb z, zl w, zb w] = limE 67 [zl z, zb z, zl w, zb w] := by kernel_rfl
  rw [e]; exact limE_ev (nadd_ev hk hz hw)
theorem eA_sign {n : Nat} {z : Int} {k : Nat} (hk : k ≤ 100000000000) (hz : z.natAbs < 2 ^ k) : evF EnA (n + 1) 110 [zl z, zb z] = some [.int .i64 z.sign] := by
  have e : evF EnA (n + 1) 110 [zl z, zb z] = limE 110 [zl z, zb z] := by kernel_rfl
  rw [e]; exact limE_ev (nsign_ev hk hz)
theorem e2_text {n : Nat} {z : Int} {k : Nat} (hk : k ≤ 10000000000) (hz : z.natAbs < 2 ^ k) : evF En2 (n + 1) 71 [zl z, zb z] = some [sF (ztext z)] := by
  have e : evF En2 (n + 1) 71 [zl z, zb z] = limE 71 [zl z, zb z] := by kernel_rfl
  rw [e]; exact limE_ev (ntext_ev hk hz)
theorem e2_parseR {n : Nat} {c : ByteArray} {z : Int} (h : pz c.data.toList = some z) (hl : c.size ≤ 1000000000) : evF En2 (n + 1) 31 [.str c] = some [zb z, wl z, .int .i64 0] := by
  have e : evF En2 (n + 1) 31 [.str c] = limE 31 [.str c] := by kernel_rfl
  rw [e]; exact limE_ev (wnparse_ev (l := c.data.toList) h (by rwa [dsize]))
theorem e2_parseR_bad {n : Nat} {c : ByteArray} (h : pz c.data.toList = none) (hl : c.size ≤ 1000000000) : evF En2 (n + 1) 31 [.str c] = some [.bool false, .list 1 [], .int .i64 10] := by
  have e : evF En2 (n + 1) 31 [.str c] = limE 31 [.str c] := by kernel_rfl
  rw [e]; exact limE_ev (wnparse_bad (l := c.data.toList) h (by rwa [dsize]))
theorem e2_addR {n : Nat} {z w : Int} {k : Nat} (hk : k ≤ 100000000000) (hz : z.natAbs < 2 ^ k) (hw : w.natAbs < 2 ^ k) : evF En2 (n + 1) 32 [zb z, wl z, zb w, wl w] = some [zb (z + w), wl (z + w)] := by
  have e : evF En2 (n + 1) 32 [zb z, wl z, zb w, wl w] = limE 32 [zb z, wl z, zb w, wl w] := by kernel_rfl
  rw [e]; exact limE_ev (wadd_z hk hz hw)
theorem e2_negR {n : Nat} {z : Int} : evF En2 (n + 1) 24 [zb z, wl z] = some [zb (-z), wl (-z)] := by
  have e : evF En2 (n + 1) 24 [zb z, wl z] = limE 24 [zb z, wl z] := by kernel_rfl
  rw [e]; exact limE_ev wneg_ev
theorem e2_signR {n : Nat} {z : Int} : evF En2 (n + 1) 33 [zb z, wl z] = some [.int .i64 z.sign] := by
  have e : evF En2 (n + 1) 33 [zb z, wl z] = limE 33 [zb z, wl z] := by kernel_rfl
  rw [e]; exact limE_ev (.of 0 fun n _ => wsign_run)
theorem e2_ofR {n : Nat} {z : Int} (h1 : -9223372036854775808 ≤ z) (h2 : z ≤ 9223372036854775807) : evF En2 (n + 1) 21 [.int .i64 z] = some [zb z, wl z] := by
  have e : evF En2 (n + 1) 21 [.int .i64 z] = limE 21 [.int .i64 z] := by kernel_rfl
  rw [e]; exact limE_ev (wnof_ev h1 h2)
theorem e2_textR {n : Nat} {z : Int} {k : Nat} (hk : k ≤ 100000000000) (hz : z.natAbs < 2 ^ k) : evF En2 (n + 1) 23 [zb z, wl z] = some [sF (ztext z)] := by
  have e : evF En2 (n + 1) 23 [zb z, wl z] = limE 23 [zb z, wl z] := by kernel_rfl
  rw [e]; exact limE_ev (wntext_ev hk hz)

theorem eB_acct {n : Nat} {a : ByteArray} (h : a.size ≤ 1099511627776) : evF EnB (n + 1) 35 [.str a] = some [.bool (acct a)] := by
  have e : evF EnB (n + 1) 35 [.str a] = acctExt [.str a] := by kernel_rfl
  rw [e, acctExt, if_pos h]
theorem eB_parse {n : Nat} {c : ByteArray} {z : Int} (h : pz c.data.toList = some z) (hl : c.size ≤ 1000000000) : evF EnB (n + 1) 79 [.str c] = some [zl z, zb z, .int .i64 0] := by
  have e : evF EnB (n + 1) 79 [.str c] = limE 79 [.str c] := by kernel_rfl
  rw [e]; exact limE_ev (nparse_ev (l := c.data.toList) h (by rwa [dsize]))
theorem eB_add {n : Nat} {z w : Int} {k : Nat} (hk : k + 1 ≤ 100000000000) (hz : z.natAbs < 2 ^ k) (hw : w.natAbs < 2 ^ k) : evF EnB (n + 1) 67 [zl z, zb z, zl w, zb w] = some [zl (z + w), zb (z + w)] := by
  have e : evF EnB (n + 1) 67 [zl z, zb z, zl w, zb w] = limE 67 [zl z, zb z, zl w, zb w] := by kernel_rfl
  rw [e]; exact limE_ev (nadd_ev hk hz hw)
theorem eB_sign {n : Nat} {z : Int} {k : Nat} (hk : k ≤ 100000000000) (hz : z.natAbs < 2 ^ k) : evF EnB (n + 1) 110 [zl z, zb z] = some [.int .i64 z.sign] := by
  have e : evF EnB (n + 1) 110 [zl z, zb z] = limE 110 [zl z, zb z] := by kernel_rfl
  rw [e]; exact limE_ev (nsign_ev hk hz)

/-! ### read, with its map -/
noncomputable def readB.l8 (n : Nat) (ms : List Nat) (m : Nat) (L : List FV) : Res := Lp EnB n 66 [1, 1, 1, 1, 0, 1, 0] ms m L
theorem readB.l8_eq (n m : Nat) (l0 : List FV) (b1 : Bool) (e2 : List FV) (x2 : Int) (l3 : List FV) (x4 : Int) (x5 : Int) : readB.l8 n [] (m + 1) [.list 1 l0, .bool b1, .list 3 e2, .int .i64 x2, .list 2 l3, .int .i64 x4, .int .i64 x5] =
  (bif (decide (x5 < x4)) then (ix x5 l3.length).bind fun i0 => (asStr (at' l3 i0 0)).bind fun u1 => (asStr (at' l3 i0 1)).bind fun u2 => (evF EnB n 79 [.str u2]).bind fun r3 => (asLst 1 (r3[0]?)).bind fun v4 => (asBool (r3[1]?)).bind fun c5 => (asInt .i64 (r3[2]?)).bind fun n6 => (evF EnB n 35 [.str u1]).bind fun r7 => (asBool (r7[0]?)).bind fun c8 =>
    (bif (!c8) then none
     else
      (bif (n6 != 0) then none
       else (asLst 1 (at' [mgetD e2 (.str u1) (.agg [.list 1 [], .bool false])] 0 0)).bind fun v9 => (asBool (at' [mgetD e2 (.str u1) (.agg [.list 1 [], .bool false])] 0 1)).bind fun c10 => (evF EnB n 67 [.list 1 v9, .bool c10, .list 1 v4, .bool c5]).bind fun r11 => (asLst 1 (r11[0]?)).bind fun v12 => (asBool (r11[1]?)).bind fun c13 =>
        (bif (decide (0 ≤ x2)) then (evF EnB n 67 [.list 1 l0, .bool b1, .list 1 v4, .bool c5]).bind fun r14 => (asLst 1 (r14[0]?)).bind fun v15 => (asBool (r14[1]?)).bind fun c16 => readB.l8 n [] m [.list 1 v15, .bool c16, .list 3 (mput e2 (.str u1) (.agg [.list 1 v12, .bool c13]) x2), .int .i64 (mclk e2 (.str u1) x2), .list 2 l3, .int .i64 x4, .int .i64 (Go.IntKind.wrap .i64 (x5 + 1))]
         else none)))
   else (evF EnB n 110 [.list 1 l0, .bool b1]).bind fun r17 => (asInt .i64 (r17[0]?)).bind fun n18 =>
    (bif (n18 != 0) then none
     else some [.list 3 e2, .int .i64 x2, .int .i64 0])) := by kernel_rfl
theorem readB_eq (n : Nat) (l0 : List FV) : evF EnB (n + 1) 66 [.list 2 l0] =
  (bif ((l0.length : Int) == 0) then none
   else
    (bif (decide ((l0.length : Int) > 64)) then none
     else readB.l8 n [] n [.list 1 [], .bool false, .list 3 [], .int .i64 0, .list 2 l0, .int .i64 (l0.length : Int), .int .i64 0])) := by kernel_rfl

end Rf
end

section
/- A transaction read: what comes of it, plainly. -/
set_option linter.unusedSimpArgs false
set_option linter.unusedVariables false
set_option maxHeartbeats 2000000
namespace Rf
open Go

/-- texts and numbers of a size that may be -/
def EBd (l : EL) (K : Nat) : Prop := ∀ p, p ∈ l → p.1.size ≤ 1048576 ∧ p.2.size ≤ 1048576 ∧ ∀ z, pz p.2.data.toList = some z → z.natAbs < 2 ^ K

theorem str_sK (a : ByteArray) : FV.str a = sK a.data.toList := rfl
theorem mul_pow7 {i K x : Nat} (hi : i ≤ 64) (h : x ≤ i * 2 ^ K) : x < 2 ^ (K + 7) := by
  have h1 : i * 2 ^ K ≤ 64 * 2 ^ K := Nat.mul_le_mul_right _ hi
  have h2 : 0 < 2 ^ K := Nat.two_pow_pos K
  have : 2 ^ (K + 7) = 2 ^ K * 128 := Nat.pow_add ..
  omega
theorem pow7 {K x : Nat} (h : x < 2 ^ K) : x < 2 ^ (K + 7) := Nat.lt_of_lt_of_le h (Nat.pow_le_pow_right (by omega) (by omega))
theorem mclk_nn {es : List FV} {k : FV} {c : Int} (h : 0 ≤ c) : 0 ≤ mclk es k c := by
  unfold mclk
  cases mhas es k <;> simp <;> omega
theorem lim_dadd {k : LK} {z : Int} {b : Nat} : ∀ {D : LS}, Lim D b → Lim (dadd D k z) (b + z.natAbs)
  | [], h => fun p hp => by simp [dadd] at hp; subst hp; simp only; omega
  | (a, x) :: r, h => fun p hp => by
    have hx := h (a, x) (by simp)
    have hr : Lim r b := fun p hp => h p (by simp [hp])
    simp only at hx
    unfold dadd at hp
    split at hp
    · rcases List.mem_cons.1 hp with rfl | hp
      · simp only; omega
      · have := hr p hp; omega
    · rcases List.mem_cons.1 hp with rfl | hp
      · simp only; omega
      · exact lim_dadd hr p hp

theorem rd_loop {n K : Nat} {l : EL} (hK : K + 10 ≤ 1000000000) (hl : l.length ≤ 64) (hb : EBd l K) : ∀ (d i m : Nat) (s c : Int) (E : TS), i + d = l.length → d < m → s.natAbs ≤ i * 2 ^ K → Lim (bare E) (i * 2 ^ K) → 0 ≤ c →
    ledger_read.l8 (n + 1) [] m [zl s, zb s, .list 3 (E.map ent), .int .i64 c, .list 2 (l.map enF), .int .i64 (l.length : Int), .int .i64 (i : Int)] =
      some [.int .i64 (match rdE (l.drop i) with | .inl e => e | .inr q => if s + lsum q = 0 then 0 else 191)]
  | 0, i, m, s, c, E, hi, hm, hs, hE, hc => by
    obtain ⟨m, rfl⟩ : ∃ k, m = k + 1 := ⟨m - 1, by omega⟩
    rw [ledger_read.l8_eq, show decide ((i : Int) < (l.length : Int)) = false from decide_eq_false (by omega), cond_false, eA_sign (k := K + 7) (by omega) (mul_pow7 (by omega) hs), Option.bind_some]
    simp only [List.getElem?_cons_zero, asInt_int, Option.bind_some]
    rw [List.drop_eq_nil_of_le (by omega)]
    simp only [rdE, lsum, List.map_nil, List.foldr_nil, Int.add_zero]
    by_cases h0 : s = 0
    · subst h0; rfl
    · rw [if_neg h0, show (s.sign != 0) = true by simpa using h0, cond_true]
  | d + 1, i, m, s, c, E, hi, hm, hs, hE, hc => by
    obtain ⟨m, rfl⟩ : ∃ k, m = k + 1 := ⟨m - 1, by omega⟩
    have hlt : i < l.length := by omega
    obtain ⟨b1, b2, b3⟩ := hb l[i] (List.getElem_mem hlt)
    rw [List.drop_eq_getElem_cons hlt]
    rw [ledger_read.l8_eq, show decide ((i : Int) < (l.length : Int)) = true from decide_eq_true (by omega), cond_true, ix_nat (by simpa using hlt), Option.bind_some, enF_at0 hlt, Option.bind_some, enF_at1 hlt, Option.bind_some]
    rw [show l[i] = ((l[i]).1, (l[i]).2) from rfl]
    generalize hp1 : (l[i]).1 = a at *
    generalize hp2 : (l[i]).2 = t at *
    cases hz : pz t.data.toList with
    | none =>
      rw [eA_parse_bad hz (by omega), Option.bind_some]
      simp only [List.getElem?_cons_zero, List.getElem?_cons_succ, asInt_int, asLst_list, asBool_bool, Option.bind_some]
      rw [eA_acct (by omega), Option.bind_some]
      simp only [List.getElem?_cons_zero, asBool_bool, Option.bind_some, rdE]
      cases acct a with
      | true => simp only [if_true, hz]; rfl
      | false => rfl
    | some z =>
      have hzb := b3 z hz
      rw [eA_parse hz (by omega), Option.bind_some]
      simp only [List.getElem?_cons_zero, List.getElem?_cons_succ, asInt_int, asLst_list, asBool_bool, Option.bind_some]
      rw [eA_acct (by omega), Option.bind_some]
      simp only [List.getElem?_cons_zero, asBool_bool, Option.bind_some]
      cases ha : acct a with
      | false => simp only [rdE, ha]; rfl
      | true =>
        have hg := lget_lim hE a.data.toList
        have hne : ((0 : Int) != 0) = false := rfl
        simp only [Bool.not_true, cond_false, hne]
        rw [str_sK, ← zN_zero, mget_ent, zN_eq]
        simp only [at_one, FV.cells, List.getElem?_cons_zero, List.getElem?_cons_succ, asLst_list, asBool_bool, Option.bind_some]
        rw [eA_add (k := K + 7) (by omega) (mul_pow7 (by omega) hg) (pow7 hzb), Option.bind_some]
        simp only [List.getElem?_cons_zero, List.getElem?_cons_succ, asLst_list, asBool_bool, Option.bind_some]
        rw [show decide (0 ≤ c) = true from decide_eq_true hc, cond_true, eA_add (k := K + 7) (by omega) (mul_pow7 (by omega) hs) (pow7 hzb), Option.bind_some]
        simp only [List.getElem?_cons_zero, List.getElem?_cons_succ, asLst_list, asBool_bool, Option.bind_some]
        rw [← zN_eq]
        obtain ⟨E', h1, h2⟩ := mput_ent a.data.toList z c E
        have hE' : Lim (bare E') ((i + 1) * 2 ^ K) := by
          rw [h2]; refine (lim_dadd hE).mono ?_
          rw [Nat.add_mul]; omega
        have hs' : (s + z).natAbs ≤ (i + 1) * 2 ^ K := by
          rw [Nat.add_mul]; omega
        rw [h1, wrap_succ (by omega), rd_loop hK hl hb d (i + 1) m (s + z) _ E' (by omega) (by omega) hs' hE' (mclk_nn hc)]
        simp only [rdE, ha, hz, if_true]
        cases rdE (l.drop (i + 1)) with
        | inl e => rfl
        | inr q =>
          simp only [lsum, List.map_cons, List.foldr_cons, Int.add_assoc]

theorem rdC_eq (l : EL) : rdC l = if l.length = 0 then 1 else if 64 < l.length then 82 else match rdE l with | .inl e => e | .inr q => if lsum q = 0 then 0 else 191 := by
  unfold rdC rdL
  by_cases h0 : l.length = 0
  · rw [if_pos h0, if_pos h0]
  rw [if_neg h0, if_neg h0]
  by_cases h1 : 64 < l.length
  · rw [if_pos h1, if_pos h1]
  rw [if_neg h1, if_neg h1]
  cases rdE l with
  | inl e => rfl
  | inr q => simp only; by_cases h2 : lsum q = 0 <;> simp [h2]

theorem read_run {n K : Nat} {l : EL} (hK : K + 10 ≤ 1000000000) (hb : EBd l K) (hn : 66 ≤ n) : evF EnA (n + 1) 66 [.list 2 (l.map enF)] = some [.int .i64 (rdC l)] := by
  rw [ledger_read_eq, rdC_eq, List.length_map]
  by_cases h0 : l.length = 0
  · rw [if_pos h0, show (((l.length : Nat) : Int) == 0) = true by simp [h0]]; rfl
  rw [if_neg h0, show (((l.length : Nat) : Int) == 0) = false by simpa using h0, cond_false]
  by_cases h1 : 64 < l.length
  · rw [if_pos h1, show decide (((l.length : Nat) : Int) > 64) = true from decide_eq_true (by omega)]; rfl
  rw [if_neg h1, show decide (((l.length : Nat) : Int) > 64) = false from decide_eq_false (by omega), cond_false]
  obtain ⟨n, rfl⟩ : ∃ k, n = k + 1 := ⟨n - 1, by omega⟩
  have h := rd_loop (n := n) hK (Nat.not_lt.1 h1) hb l.length 0 (n + 1) 0 0 [] (by omega) (by omega) (by simp) (fun p hp => by simp [bare] at hp) (by omega)
  rw [List.drop_zero] at h
  have e : zl 0 = .list 1 [] := by show L32 (dg 4294967296 0) = _; rw [dg_zero]; rfl
  rw [e] at h
  simp only [Int.zero_add] at h
  exact h

theorem rdB_loop {n K : Nat} {l : EL} (hK : K + 10 ≤ 1000000000) (hl : l.length ≤ 64) (hb : EBd l K) : ∀ (d i m : Nat) (s c : Int) (E : TS) (q : LS), i + d = l.length → d < m → s.natAbs ≤ i * 2 ^ K → Lim (bare E) (i * 2 ^ K) → 0 ≤ c → rdE (l.drop i) = .inr q → s + lsum q = 0 →
    ∃ E' c', readB.l8 (n + 1) [] m [zl s, zb s, .list 3 (E.map ent), .int .i64 c, .list 2 (l.map enF), .int .i64 (l.length : Int), .int .i64 (i : Int)] =
      some [.list 3 (E'.map ent), .int .i64 c', .int .i64 0] ∧ bare E' = q.foldl (fun D p => dadd D p.1 p.2) (bare E) ∧ 0 ≤ c'
  | 0, i, m, s, c, E, q, hi, hm, hs, hE, hc, hq, h0 => by
    obtain ⟨m, rfl⟩ : ∃ k, m = k + 1 := ⟨m - 1, by omega⟩
    rw [List.drop_eq_nil_of_le (by omega)] at hq
    simp only [rdE, Sum.inr.injEq] at hq
    subst hq
    simp only [lsum, List.map_nil, List.foldr_nil, Int.add_zero] at h0
    subst h0
    refine ⟨E, c, ?_, rfl, hc⟩
    rw [readB.l8_eq, show decide ((i : Int) < (l.length : Int)) = false from decide_eq_false (by omega), cond_false, eB_sign (k := K + 7) (by omega) (mul_pow7 (by omega) hs), Option.bind_some]
    rfl
  | d + 1, i, m, s, c, E, q, hi, hm, hs, hE, hc, hq, h0 => by
    obtain ⟨m, rfl⟩ : ∃ k, m = k + 1 := ⟨m - 1, by omega⟩
    have hlt : i < l.length := by omega
    obtain ⟨b1, b2, b3⟩ := hb l[i] (List.getElem_mem hlt)
    rw [List.drop_eq_getElem_cons hlt] at hq
    rw [readB.l8_eq, show decide ((i : Int) < (l.length : Int)) = true from decide_eq_true (by omega), cond_true, ix_nat (by simpa using hlt), Option.bind_some, enF_at0 hlt, Option.bind_some, enF_at1 hlt, Option.bind_some]
    rw [show l[i] = ((l[i]).1, (l[i]).2) from rfl] at hq
    generalize hp1 : (l[i]).1 = a at *
    generalize hp2 : (l[i]).2 = t at *
    simp only [rdE] at hq
    split at hq
    case isFalse => cases hq
    rename_i ha
    cases hz : pz t.data.toList with
    | none => rw [hz] at hq; cases hq
    | some z =>
      rw [hz] at hq
      simp only at hq
      cases hr : rdE (l.drop (i + 1)) with
      | inl e => rw [hr] at hq; cases hq
      | inr q' =>
        rw [hr] at hq
        simp only [Sum.inr.injEq] at hq
        subst hq
        have hzb := b3 z hz
        rw [eB_parse hz (by omega), Option.bind_some]
        simp only [List.getElem?_cons_zero, List.getElem?_cons_succ, asInt_int, asLst_list, asBool_bool, Option.bind_some]
        rw [eB_acct (by omega), Option.bind_some]
        simp only [List.getElem?_cons_zero, asBool_bool, Option.bind_some, ha]
        have hg := lget_lim hE a.data.toList
        have hne : ((0 : Int) != 0) = false := rfl
        simp only [Bool.not_true, cond_false, hne]
        rw [str_sK, ← zN_zero, mget_ent, zN_eq]
        simp only [at_one, FV.cells, List.getElem?_cons_zero, List.getElem?_cons_succ, asLst_list, asBool_bool, Option.bind_some]
        rw [eB_add (k := K + 7) (by omega) (mul_pow7 (by omega) hg) (pow7 hzb), Option.bind_some]
        simp only [List.getElem?_cons_zero, List.getElem?_cons_succ, asLst_list, asBool_bool, Option.bind_some]
        rw [show decide (0 ≤ c) = true from decide_eq_true hc, cond_true, eB_add (k := K + 7) (by omega) (mul_pow7 (by omega) hs) (pow7 hzb), Option.bind_some]
        simp only [List.getElem?_cons_zero, List.getElem?_cons_succ, asLst_list, asBool_bool, Option.bind_some]
        rw [← zN_eq]
        obtain ⟨E', h1, h2⟩ := mput_ent a.data.toList z c E
        have hE' : Lim (bare E') ((i + 1) * 2 ^ K) := by
          rw [h2]; refine (lim_dadd hE).mono ?_
          rw [Nat.add_mul]; omega
        have hs' : (s + z).natAbs ≤ (i + 1) * 2 ^ K := by
          rw [Nat.add_mul]; omega
        obtain ⟨E2, c2, r1, r2, r3⟩ := rdB_loop (n := n) hK hl hb d (i + 1) m (s + z) (mclk (E.map ent) (sK a.data.toList) c) E' q' (by omega) (by omega) hs' hE' (mclk_nn hc) hr (by
          simp only [lsum, List.map_cons, List.foldr_cons] at h0 ⊢; omega)
        exact ⟨E2, c2, by rw [h1, wrap_succ (by omega), r1], by rw [r2, h2, List.foldl_cons], r3⟩

theorem readB_run {n K : Nat} {l : EL} {q : LS} (hK : K + 10 ≤ 1000000000) (hb : EBd l K) (hn : 66 ≤ n) (hq : rdL l = .inr q) : ∃ E' c', evF EnB (n + 1) 66 [.list 2 (l.map enF)] = some [.list 3 (E'.map ent), .int .i64 c', .int .i64 0] ∧ bare E' = dpost q ∧ 0 ≤ c' := by
  unfold rdL at hq
  split at hq
  · cases hq
  split at hq
  · cases hq
  rename_i h0 h1
  cases hr : rdE l with
  | inl e => rw [hr] at hq; cases hq
  | inr d =>
    rw [hr] at hq
    simp only at hq
    split at hq
    case isFalse => cases hq
    rename_i hsum
    cases hq
    obtain ⟨n, rfl⟩ : ∃ k, n = k + 1 := ⟨n - 1, by omega⟩
    obtain ⟨E', c', r1, r2, r3⟩ := rdB_loop (n := n) hK (Nat.not_lt.1 h1) hb l.length 0 (n + 1) 0 0 [] q (by omega) (by omega) (by simp) (fun p hp => by simp [bare] at hp) (by omega) (by rwa [List.drop_zero]) (by rwa [Int.zero_add])
    refine ⟨E', c', ?_, r2, r3⟩
    rw [readB_eq, List.length_map, show (((l.length : Nat) : Int) == 0) = false by simpa using h0, cond_false, show decide (((l.length : Nat) : Int) > 64) = false from decide_eq_false (by omega), cond_false]
    have e : zl 0 = .list 1 [] := by show L32 (dg 4294967296 0) = _; rw [dg_zero]; rfl
    rw [e] at r1
    exact r1

end Rf
end
