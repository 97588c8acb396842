/- The program's whole numbers (package num): each function by what its numbers are. -/
import Derived.Test.YtebaohjeodeaoaaGreatDoorNatB
import Derived.Test.YtebaohjeodeaoaaGreatDoorEqRat
import Derived.Test.YtebaohjeodeaoaaGreatDoorRt
set_option linter.unusedSimpArgs false
set_option linter.unusedVariables false
set_option maxHeartbeats 1000000
namespace Rf
open Go

abbrev nL (x : Nat) : FV := L32 (dg 4294967296 x)
abbrev zl (z : Int) : FV := nL z.natAbs
abbrev zb (z : Int) : FV := .bool (decide (z < 0))

/-- a sign and a size -/
def sg (s : Bool) (x : Nat) : Int := if s then -(x : Int) else x
theorem sg_abs (s : Bool) (x : Nat) : (sg s x).natAbs = x := by unfold sg; split <;> omega
theorem sg_neg (s : Bool) (x : Nat) : decide (sg s x < 0) = (s && decide (0 < x)) := by
  unfold sg
  cases s <;> simp
theorem sg_self (z : Int) : sg (decide (z < 0)) z.natAbs = z := by unfold sg; by_cases h : z < 0 <;> simp [h] <;> omega

theorem len_of {x k : Nat} (h : x < 2 ^ k) (hk : k ≤ 100000000000) : (dg 4294967296 x).length ≤ 100000000000 := Nat.le_trans (dg_len_pow b32_2 h) hk

theorem zero_ev {x k : Nat} {s : Bool} (hk : k ≤ 100000000000) (hx : x < 2 ^ k) : Ev En 146 [nL x, .bool s] [.bool (decide (x = 0))] := by
  have l := len_of hx hk
  obtain ⟨n1, h1⟩ := natBits_ev (x := x) (by omega)
  refine Ev.of n1 fun n hn => ?_
  rw [num_Num_zero_eq]
  simp (disch := omega) only [h1, Option.bind_some, List.getElem?_cons_zero, List.getElem?_cons_succ, asLst_list, asInt_int, asBool_bool, asStr_str, cond_true, cond_false]
  have : (((bitsN x : Nat) : Int) == 0) = decide (x = 0) := by
    rw [Bool.eq_iff_iff, beq_iff_eq, decide_eq_true_eq, ← bitsN_zero]; omega
  rw [this]

theorem mk_ev {x k : Nat} {s : Bool} (hk : k ≤ 100000000000) (hx : x < 2 ^ k) : Ev En 111 [.bool s, nL x] [zl (sg s x), zb (sg s x)] := by
  have l := len_of hx hk
  obtain ⟨n1, h1⟩ := natBits_ev (x := x) (by omega)
  refine Ev.of n1 fun n hn => ?_
  rw [num_Make_eq]
  unfold zl zb
  rw [sg_abs, sg_neg]
  cases s
  · simp (disch := omega) only [Option.bind_some, List.getElem?_cons_zero, List.getElem?_cons_succ, asLst_list, asInt_int, asBool_bool, asStr_str, cond_true, cond_false]
    rfl
  · simp (disch := omega) only [h1, Option.bind_some, List.getElem?_cons_zero, List.getElem?_cons_succ, asLst_list, asInt_int, asBool_bool, asStr_str, cond_true, cond_false]
    have : decide (((bitsN x : Nat) : Int) > 0) = decide (0 < x) := by
      rw [Bool.eq_iff_iff, decide_eq_true_eq, decide_eq_true_eq]
      have := @bitsN_zero x
      omega
    rw [this]; rfl

theorem nsign_ev {z : Int} {k : Nat} (hk : k ≤ 100000000000) (hz : z.natAbs < 2 ^ k) : Ev En 110 [zl z, zb z] [.int .i64 z.sign] := by
  obtain ⟨n1, h1⟩ := zero_ev (s := decide (z < 0)) hk hz
  refine Ev.of n1 fun n hn => ?_
  rw [num_Num_Sign_eq]
  by_cases h : z < 0
  · rw [decide_eq_true h]
    simp (disch := omega) only [Option.bind_some, List.getElem?_cons_zero, List.getElem?_cons_succ, asLst_list, asInt_int, asBool_bool, asStr_str, cond_true, cond_false]
    rw [Int.sign_eq_neg_one_of_neg h]
  · rw [decide_eq_false h] at h1 ⊢
    simp (disch := omega) only [h1, Option.bind_some, List.getElem?_cons_zero, List.getElem?_cons_succ, asLst_list, asInt_int, asBool_bool, asStr_str, cond_true, cond_false]
    by_cases h0 : z = 0
    · subst h0; rfl
    · rw [decide_eq_false (by omega)]
      simp (disch := omega) only [Option.bind_some, List.getElem?_cons_zero, List.getElem?_cons_succ, asLst_list, asInt_int, asBool_bool, asStr_str, cond_true, cond_false]
      rw [Int.sign_eq_one_of_pos (by omega)]

theorem natAbs_lt {z : Int} {k : Nat} (h : z.natAbs < 2 ^ k) : True := trivial

theorem nneg_ev {z : Int} {k : Nat} (hk : k ≤ 100000000000) (hz : z.natAbs < 2 ^ k) : Ev En 87 [zl z, zb z] [zl (-z), zb (-z)] := by
  obtain ⟨n1, h1⟩ := mk_ev (s := !(decide (z < 0))) hk hz
  refine Ev.of n1 fun n hn => ?_
  rw [num_Num_Neg_eq]
  simp (disch := omega) only [h1, Option.bind_some, List.getElem?_cons_zero, List.getElem?_cons_succ, asLst_list, asInt_int, asBool_bool, asStr_str, cond_true, cond_false]
  have : sg (!(decide (z < 0))) z.natAbs = -z := by
    unfold sg; by_cases h : z < 0 <;> simp [h] <;> omega
  rw [this]

theorem nabs_ev {z : Int} : Ev En 124 [zl z, zb z] [nL z.natAbs] := Ev.of 0 fun n _ => num_Num_Abs_eq n _ _

theorem pow_two {a b k : Nat} (h : a < 2 ^ k) (h' : b < 2 ^ k) : a + b < 2 ^ (k + 1) := by rw [Nat.pow_succ]; omega

theorem nadd_ev {z w : Int} {k : Nat} (hk : k + 1 ≤ 100000000000) (hz : z.natAbs < 2 ^ k) (hw : w.natAbs < 2 ^ k) : Ev En 67 [zl z, zb z, zl w, zb w] [zl (z + w), zb (z + w)] := by
  have lz := len_of hz (by omega)
  have lw := len_of hw (by omega)
  by_cases hs : decide (z < 0) = decide (w < 0)
  · obtain ⟨n1, h1⟩ := natAdd_ev (x := z.natAbs) (y := w.natAbs) (by omega) (by omega)
    obtain ⟨n2, h2⟩ := mk_ev (s := decide (z < 0)) hk (pow_two hz hw)
    refine Ev.of (n1 + n2) fun n hn => ?_
    rw [num_Num_Add_eq, hs]
    rw [hs] at h2
    simp (disch := omega) only [h1, h2, beq_self_eq_true, Option.bind_some, List.getElem?_cons_zero, List.getElem?_cons_succ, asLst_list, asInt_int, asBool_bool, asStr_str, cond_true, cond_false]
    have : sg (decide (w < 0)) (z.natAbs + w.natAbs) = z + w := by
      unfold sg
      by_cases h : w < 0
      · have : z < 0 := by rw [decide_eq_true h] at hs; exact of_decide_eq_true hs
        simp [h]; omega
      · have : ¬ z < 0 := by rw [decide_eq_false h] at hs; exact of_decide_eq_false hs
        simp [h]; omega
    rw [this]
  · have hb : (decide (z < 0) == decide (w < 0)) = false := beq_eq_false_iff_ne.2 hs
    have hsgn : (z < 0 ∧ 0 ≤ w) ∨ (0 ≤ z ∧ w < 0) := by
      by_cases h : z < 0 <;> by_cases h' : w < 0 <;> simp_all <;> omega
    by_cases hle : w.natAbs ≤ z.natAbs
    · obtain ⟨n1, h1⟩ := natSub_ev (x := z.natAbs) (y := w.natAbs) (by omega) hle (by omega) (by omega)
      obtain ⟨n2, h2⟩ := mk_ev (k := k) (x := z.natAbs - w.natAbs) (s := decide (z < 0)) (by omega) (by omega)
      refine Ev.of (n1 + n2) fun n hn => ?_
      rw [num_Num_Add_eq, hb]
      simp (disch := omega) only [h1, h2, beq_self_eq_true, Option.bind_some, List.getElem?_cons_zero, List.getElem?_cons_succ, asLst_list, asInt_int, asBool_bool, asStr_str, cond_true, cond_false]
      have : sg (decide (z < 0)) (z.natAbs - w.natAbs) = z + w := by
        unfold sg
        by_cases h : z < 0 <;> simp [h] <;> omega
      rw [this]
    · obtain ⟨n1, h1⟩ := natSub_below (x := z.natAbs) (y := w.natAbs) (by omega) (by omega) (by omega)
      obtain ⟨n3, h3⟩ := natSub_ev (x := w.natAbs) (y := z.natAbs) (by omega) (by omega) (by omega) (by omega)
      obtain ⟨n2, h2⟩ := mk_ev (k := k) (x := w.natAbs - z.natAbs) (s := decide (w < 0)) (by omega) (by omega)
      refine Ev.of (n1 + n2 + n3) fun n hn => ?_
      rw [num_Num_Add_eq, hb]
      simp (disch := omega) only [h1, h2, h3, show ((11 : Int) == 0) = false from rfl, Option.bind_some, List.getElem?_cons_zero, List.getElem?_cons_succ, asLst_list, asInt_int, asBool_bool, asStr_str, cond_true, cond_false]
      have : sg (decide (w < 0)) (w.natAbs - z.natAbs) = z + w := by
        unfold sg
        by_cases h : w < 0 <;> simp [h] <;> omega
      rw [this]

theorem nsub_ev {z w : Int} {k : Nat} (hk : k + 1 ≤ 100000000000) (hz : z.natAbs < 2 ^ k) (hw : w.natAbs < 2 ^ k) : Ev En 83 [zl z, zb z, zl w, zb w] [zl (z - w), zb (z - w)] := by
  obtain ⟨n1, h1⟩ := nneg_ev (by omega) hw
  obtain ⟨n2, h2⟩ := nadd_ev (w := -w) hk hz (by rw [Int.natAbs_neg]; exact hw)
  refine Ev.of (n1 + n2) fun n hn => ?_
  rw [num_Num_Sub_eq]
  simp (disch := omega) only [h1, h2, Option.bind_some, List.getElem?_cons_zero, List.getElem?_cons_succ, asLst_list, asInt_int, asBool_bool, asStr_str, cond_true, cond_false]
  rw [Int.sub_eq_add_neg]

theorem sg_mul (z w : Int) : sg (!(decide (z < 0) == decide (w < 0))) (z.natAbs * w.natAbs) = z * w := by
  unfold sg
  rcases Int.lt_or_le z 0 with h | h <;> rcases Int.lt_or_le w 0 with h' | h'
  · obtain ⟨x, rfl⟩ : ∃ x : Nat, z = -(x : Int) := ⟨z.natAbs, by omega⟩
    obtain ⟨y, rfl⟩ : ∃ y : Nat, w = -(y : Int) := ⟨w.natAbs, by omega⟩
    rw [Int.neg_mul_neg, decide_eq_true h, decide_eq_true h', Int.natAbs_neg, Int.natAbs_neg]
    simp
  · obtain ⟨x, rfl⟩ : ∃ x : Nat, z = -(x : Int) := ⟨z.natAbs, by omega⟩
    obtain ⟨y, rfl⟩ : ∃ y : Nat, w = (y : Int) := ⟨w.natAbs, by omega⟩
    rw [Int.neg_mul, decide_eq_true h, decide_eq_false (by omega), Int.natAbs_neg]
    simp
  · obtain ⟨x, rfl⟩ : ∃ x : Nat, z = (x : Int) := ⟨z.natAbs, by omega⟩
    obtain ⟨y, rfl⟩ : ∃ y : Nat, w = -(y : Int) := ⟨w.natAbs, by omega⟩
    rw [Int.mul_neg, decide_eq_true h', decide_eq_false (by omega), Int.natAbs_neg]
    simp
  · obtain ⟨x, rfl⟩ : ∃ x : Nat, z = (x : Int) := ⟨z.natAbs, by omega⟩
    obtain ⟨y, rfl⟩ : ∃ y : Nat, w = (y : Int) := ⟨w.natAbs, by omega⟩
    rw [decide_eq_false (by omega), decide_eq_false (by omega)]
    simp

theorem nmul_ev {z w : Int} {k : Nat} (hk : k + k ≤ 100000000000) (hz : z.natAbs < 2 ^ k) (hw : w.natAbs < 2 ^ k) : Ev En 85 [zl z, zb z, zl w, zb w] [zl (z * w), zb (z * w)] := by
  have lz := len_of hz (by omega)
  have lw := len_of hw (by omega)
  obtain ⟨n1, h1⟩ := natMul_ev (x := z.natAbs) (y := w.natAbs) (by omega)
  obtain ⟨n2, h2⟩ := mk_ev (s := !(decide (z < 0) == decide (w < 0))) hk (lt_pow_mul hz hw)
  refine Ev.of (n1 + n2) fun n hn => ?_
  rw [num_Num_Mul_eq]
  simp (disch := omega) only [h1, h2, Option.bind_some, List.getElem?_cons_zero, List.getElem?_cons_succ, asLst_list, asInt_int, asBool_bool, asStr_str, cond_true, cond_false]
  rw [sg_mul z w]

/-- how two whole numbers compare -/
def cmpZi (z w : Int) : Int := if z < w then -1 else if w < z then 1 else 0

theorem cmpN_pos {z w : Int} (hz : 0 ≤ z) (hw : 0 ≤ w) : cmpN z.natAbs w.natAbs = cmpZi z w := by
  have e1 : z.natAbs < w.natAbs ↔ z < w := by omega
  have e2 : w.natAbs < z.natAbs ↔ w < z := by omega
  simp only [cmpN, cmpZi, e1, e2]
theorem cmpN_neg {z w : Int} (hz : z < 0) (hw : w < 0) : cmpN w.natAbs z.natAbs = cmpZi z w := by
  have e1 : w.natAbs < z.natAbs ↔ z < w := by omega
  have e2 : z.natAbs < w.natAbs ↔ w < z := by omega
  simp only [cmpN, cmpZi, e1, e2]

theorem ncmp_ev {z w : Int} {k : Nat} (hk : k ≤ 100000000000) (hz : z.natAbs < 2 ^ k) (hw : w.natAbs < 2 ^ k) : Ev En 88 [zl z, zb z, zl w, zb w] [.int .i64 (cmpZi z w)] := by
  have lz := len_of hz (by omega)
  have lw := len_of hw (by omega)
  obtain ⟨n1, h1⟩ := natCmp_ev (x := z.natAbs) (y := w.natAbs) (by omega) (by omega)
  obtain ⟨n2, h2⟩ := natCmp_ev (x := w.natAbs) (y := z.natAbs) (by omega) (by omega)
  refine Ev.of (n1 + n2) fun n hn => ?_
  rw [num_Num_Cmp_eq]
  by_cases h : z < 0 <;> by_cases h' : w < 0
  · rw [decide_eq_true h, decide_eq_true h']
    simp (disch := omega) only [h1, h2, Bool.not_true, Option.bind_some, List.getElem?_cons_zero, List.getElem?_cons_succ, asLst_list, asInt_int, asBool_bool, asStr_str, cond_true, cond_false]
    rw [cmpN_neg h h']
  · rw [decide_eq_true h, decide_eq_false h']
    simp (disch := omega) only [h1, h2, Bool.not_true, Bool.not_false, Option.bind_some, List.getElem?_cons_zero, List.getElem?_cons_succ, asLst_list, asInt_int, asBool_bool, asStr_str, cond_true, cond_false]
    unfold cmpZi
    rw [if_pos (by omega)]
  · rw [decide_eq_false h, decide_eq_true h']
    simp (disch := omega) only [h1, h2, Bool.not_true, Bool.not_false, Option.bind_some, List.getElem?_cons_zero, List.getElem?_cons_succ, asLst_list, asInt_int, asBool_bool, asStr_str, cond_true, cond_false]
    unfold cmpZi
    rw [if_neg (by omega), if_pos (by omega)]
  · rw [decide_eq_false h, decide_eq_false h']
    simp (disch := omega) only [h1, h2, Bool.not_true, Bool.not_false, Option.bind_some, List.getElem?_cons_zero, List.getElem?_cons_succ, asLst_list, asInt_int, asBool_bool, asStr_str, cond_true, cond_false]
    rw [cmpN_pos (by omega) (by omega)]

theorem nof_ev {z : Int} (h1 : -9223372036854775808 ≤ z) (h2 : z ≤ 9223372036854775807) : Ev En 84 [.int .i64 z] [zl z, zb z] := by
  have hb : z.natAbs < 2 ^ 64 := by
    have : (2 : Nat) ^ 64 = 18446744073709551616 := by decide
    omega
  obtain ⟨n1, g1⟩ := natOf_ev (x := z.natAbs) (by omega)
  obtain ⟨n2, g2⟩ := mk_ev (s := decide (z < 0)) (k := 64) (by omega) hb
  refine Ev.of (n1 + n2) fun n hn => ?_
  rw [num_Of_eq]
  by_cases h : z < 0
  · rw [decide_eq_true h] at g2 ⊢
    have e : IntKind.wrap .u64 (0 - IntKind.wrap .u64 z) = (z.natAbs : Int) := by
      unfold IntKind.wrap
      simp [IntKind.bits, IntKind.signed]
      omega
    rw [e]
    simp (disch := omega) only [g1, g2, Option.bind_some, List.getElem?_cons_zero, List.getElem?_cons_succ, asLst_list, asInt_int, asBool_bool, asStr_str, cond_true, cond_false]
    have : sg true z.natAbs = z := by unfold sg; simp; omega
    rw [this]
  · rw [decide_eq_false h] at g2 ⊢
    have e : IntKind.wrap .u64 z = (z.natAbs : Int) := by
      unfold IntKind.wrap
      simp [IntKind.bits, IntKind.signed]
      omega
    rw [e]
    simp (disch := omega) only [g1, g2, Option.bind_some, List.getElem?_cons_zero, List.getElem?_cons_succ, asLst_list, asInt_int, asBool_bool, asStr_str, cond_true, cond_false]
    have : sg false z.natAbs = z := by unfold sg; simp; omega
    rw [this]

theorem ndm_zero {x : Nat} {s t : Bool} : Ev En 126 [nL x, .bool s, nL 0, .bool t] [.list 1 [], .bool false, .list 1 [], .bool false, .int .i64 12] := by
  obtain ⟨n1, h1⟩ := natDivMod_zero (x := x)
  refine Ev.of n1 fun n hn => ?_
  rw [num_Num_QuoRem_eq]
  simp (disch := omega) only [h1, show ((12 : Int) != 0) = true from rfl, Option.bind_some, List.getElem?_cons_zero, List.getElem?_cons_succ, asLst_list, asInt_int, asBool_bool, asStr_str, cond_true, cond_false]

theorem sg_div (z w : Int) : sg (!(decide (z < 0) == decide (w < 0))) (z.natAbs / w.natAbs) = z.tdiv w := by
  unfold sg
  rcases Int.lt_or_le z 0 with h | h <;> rcases Int.lt_or_le w 0 with h' | h'
  · obtain ⟨x, rfl⟩ : ∃ x : Nat, z = -(x : Int) := ⟨z.natAbs, by omega⟩
    obtain ⟨y, rfl⟩ : ∃ y : Nat, w = -(y : Int) := ⟨w.natAbs, by omega⟩
    rw [Int.neg_tdiv_neg, decide_eq_true h, decide_eq_true h', Int.natAbs_neg, Int.natAbs_neg]
    simp
  · obtain ⟨x, rfl⟩ : ∃ x : Nat, z = -(x : Int) := ⟨z.natAbs, by omega⟩
    obtain ⟨y, rfl⟩ : ∃ y : Nat, w = (y : Int) := ⟨w.natAbs, by omega⟩
    rw [Int.neg_tdiv, decide_eq_true h, decide_eq_false (by omega), Int.natAbs_neg]
    simp
  · obtain ⟨x, rfl⟩ : ∃ x : Nat, z = (x : Int) := ⟨z.natAbs, by omega⟩
    obtain ⟨y, rfl⟩ : ∃ y : Nat, w = -(y : Int) := ⟨w.natAbs, by omega⟩
    rw [Int.tdiv_neg, decide_eq_true h', decide_eq_false (by omega), Int.natAbs_neg]
    simp
  · obtain ⟨x, rfl⟩ : ∃ x : Nat, z = (x : Int) := ⟨z.natAbs, by omega⟩
    obtain ⟨y, rfl⟩ : ∃ y : Nat, w = (y : Int) := ⟨w.natAbs, by omega⟩
    rw [decide_eq_false (by omega), decide_eq_false (by omega)]
    simp

theorem sg_mod (z w : Int) : sg (decide (z < 0)) (z.natAbs % w.natAbs) = z.tmod w := by
  unfold sg
  rcases Int.lt_or_le z 0 with h | h
  · obtain ⟨x, rfl⟩ : ∃ x : Nat, z = -(x : Int) := ⟨z.natAbs, by omega⟩
    rw [Int.neg_tmod, decide_eq_true h, Int.natAbs_neg]
    rcases Int.lt_or_le w 0 with h' | h'
    · obtain ⟨y, rfl⟩ : ∃ y : Nat, w = -(y : Int) := ⟨w.natAbs, by omega⟩
      rw [Int.tmod_neg]; simp [Int.tmod_eq_emod_of_nonneg]
    · obtain ⟨y, rfl⟩ : ∃ y : Nat, w = (y : Int) := ⟨w.natAbs, by omega⟩
      simp [Int.tmod_eq_emod_of_nonneg]
  · obtain ⟨x, rfl⟩ : ∃ x : Nat, z = (x : Int) := ⟨z.natAbs, by omega⟩
    rw [decide_eq_false (by omega)]
    rcases Int.lt_or_le w 0 with h' | h'
    · obtain ⟨y, rfl⟩ : ∃ y : Nat, w = -(y : Int) := ⟨w.natAbs, by omega⟩
      rw [Int.tmod_neg]; simp [Int.tmod_eq_emod_of_nonneg]
    · obtain ⟨y, rfl⟩ : ∃ y : Nat, w = (y : Int) := ⟨w.natAbs, by omega⟩
      simp [Int.tmod_eq_emod_of_nonneg]

theorem nqr_ev {z w : Int} {k : Nat} (hk : k ≤ 100000000000) (h0 : w ≠ 0) (hz : z.natAbs < 2 ^ k) (hw : w.natAbs < 2 ^ k) :
    Ev En 126 [zl z, zb z, zl w, zb w] [zl (z.tdiv w), zb (z.tdiv w), zl (z.tmod w), zb (z.tmod w), .int .i64 0] := by
  have lz := len_of hz (by omega)
  have lw := len_of hw (by omega)
  have hq : z.natAbs / w.natAbs < 2 ^ k := Nat.lt_of_le_of_lt (Nat.div_le_self _ _) hz
  have hr : z.natAbs % w.natAbs < 2 ^ k := Nat.lt_of_le_of_lt (Nat.mod_le _ _) hz
  obtain ⟨n1, h1⟩ := natDivMod_ev (x := z.natAbs) (y := w.natAbs) (by omega) (by omega) (by omega)
  obtain ⟨n2, h2⟩ := mk_ev (s := !(decide (z < 0) == decide (w < 0))) hk hq
  obtain ⟨n3, h3⟩ := mk_ev (s := decide (z < 0)) hk hr
  refine Ev.of (n1 + n2 + n3) fun n hn => ?_
  rw [num_Num_QuoRem_eq]
  simp (disch := omega) only [h1, h2, h3, show ((0 : Int) != 0) = false from rfl, Option.bind_some, List.getElem?_cons_zero, List.getElem?_cons_succ, asLst_list, asInt_int, asBool_bool, asStr_str, cond_true, cond_false]
  rw [sg_div z w, sg_mod z w]

/-! ### texts -/
theorem pow2_10 (k : Nat) : 2 ^ k ≤ 1000000000 ^ k := Nat.pow_le_pow_left (by omega) k

theorem ntext_ev {z : Int} {k : Nat} (hk : k ≤ 10000000000) (hz : z.natAbs < 2 ^ k) : Ev En 71 [zl z, zb z] [sF (ztext z)] := by
  have lz := len_of hz (by omega)
  have lt := dtext_len hz
  obtain ⟨n1, h1⟩ := natText_ev (x := z.natAbs) (k := k) (Nat.lt_of_lt_of_le hz (pow2_10 k)) (by omega) (by omega) (by omega)
  refine Ev.of n1 fun n hn => ?_
  rw [num_Num_Text_eq]
  unfold ztext
  by_cases h : z < 0
  · rw [decide_eq_true h, if_pos h]
    simp (disch := omega) only [h1, Option.bind_some, List.getElem?_cons_zero, List.getElem?_cons_succ, asLst_list, asInt_int, asBool_bool, asStr_str, cond_true, cond_false]
    rw [txt_size, decide_eq_false (by omega), cond_false, show ({ data := #[45] } : ByteArray) = txt [45] from rfl, txt_app]
    rfl
  · rw [decide_eq_false h, if_neg h]
    simp (disch := omega) only [h1, Option.bind_some, List.getElem?_cons_zero, List.getElem?_cons_succ, asLst_list, asInt_int, asBool_bool, asStr_str, cond_true, cond_false]

theorem cutpre_run {n : Nat} (l : List UInt8) : evF En (n + 3) 121 [sF l, .str { data := #[45] }] = some [sF (if l.head? = some 45 then l.tail else l), .bool (decide (l.head? = some 45))] := by
  rw [strings_CutPrefix_eq, stringslite_CutPrefix_eq, stringslite_HasPrefix_eq, show ({ data := #[45] } : ByteArray) = txt [45] from rfl, txt_size, txt_size]
  cases l with
  | nil => rfl
  | cons c t =>
    rw [decide_eq_true (by simp; omega), cond_true, bd_nat (by simp), Option.bind_some, txt_extract, txt_beq]
    simp only [Option.bind_some, List.getElem?_cons_zero, asBool_bool]
    by_cases hc : c = 45
    · subst hc
      rw [decide_eq_true (by simp), Bool.not_true, cond_false]
      simp (disch := omega) only [txt_extract, Option.bind_some, List.getElem?_cons_zero, List.getElem?_cons_succ, asLst_list, asInt_int, asBool_bool, asStr_str, cond_true, cond_false]
      simp
    · rw [decide_eq_false (by simpa using hc), Bool.not_false, cond_true]
      simp (disch := omega) only [Option.bind_some, List.getElem?_cons_zero, List.getElem?_cons_succ, asLst_list, asInt_int, asBool_bool, asStr_str, cond_true, cond_false]
      simp [hc]

theorem nparse_ev {l : List UInt8} {z : Int} (h : pz l = some z) (hl : l.length ≤ 1000000000) : Ev En 79 [sF l] [zl z, zb z, .int .i64 0] := by
  have hb := pz_lt h
  have lz := len_of hb (by omega)
  have e := pz_some.1 h
  have hcp := fun n => @cutpre_run n l
  have hb' := natBits_ev (x := z.natAbs) (by omega)
  by_cases hz : z < 0
  · have hl2 : l = 45 :: dtext z.natAbs := by rw [e]; unfold ztext; rw [if_pos hz]
    obtain ⟨n1, h1⟩ := natParse_ev (l := dtext z.natAbs) (canon_dtext _) (by rw [hl2] at hl; simp at hl; omega) (by rw [vD_dtext]; omega)
    rw [vD_dtext] at h1
    obtain ⟨n2, h2⟩ := mk_ev (s := true) (by omega : 4 * l.length ≤ 100000000000) hb
    obtain ⟨n3, h3⟩ := hb'
    refine Ev.of (n1 + n2 + n3 + 3) fun n hn => ?_
    obtain ⟨n, rfl⟩ : ∃ m, n = m + 3 := ⟨n - 3, by omega⟩
    rw [num_Parse_eq, hcp]
    subst hl2
    simp (disch := omega) only [List.head?_cons, if_true, List.tail_cons, h1, decide_true, show ((0 : Int) != 0) = false from rfl, h3, Option.bind_some, List.getElem?_cons_zero, List.getElem?_cons_succ, asLst_list, asInt_int, asBool_bool, asStr_str, cond_true, cond_false]
    have : (((bitsN z.natAbs : Nat) : Int) == 0) = false := by
      rw [beq_eq_false_iff_ne]
      have := @bitsN_zero z.natAbs
      omega
    rw [this]
    simp (disch := omega) only [h2, Option.bind_some, List.getElem?_cons_zero, List.getElem?_cons_succ, asLst_list, asInt_int, asBool_bool, asStr_str, cond_true, cond_false]
    have : sg true z.natAbs = z := by unfold sg; simp; omega
    rw [this]
  · have hl2 : l = dtext z.natAbs := by rw [e]; unfold ztext; rw [if_neg hz]
    have hc : canon l := hl2 ▸ canon_dtext _
    have h45 : l.head? ≠ some 45 := fun q => by
      cases l with
      | nil => cases q
      | cons c t => simp at q; subst q; exact canon_not45 hc
    obtain ⟨n1, h1⟩ := natParse_ev (l := l) hc hl (by rw [hl2, vD_dtext]; omega)
    have hv : vD l = z.natAbs := by rw [hl2, vD_dtext]
    rw [hv] at h1
    obtain ⟨n2, h2⟩ := mk_ev (s := false) (by omega : 4 * l.length ≤ 100000000000) hb
    refine Ev.of (n1 + n2 + 3) fun n hn => ?_
    obtain ⟨n, rfl⟩ : ∃ m, n = m + 3 := ⟨n - 3, by omega⟩
    rw [num_Parse_eq, hcp, if_neg h45, decide_eq_false h45]
    simp (disch := omega) only [h1, show ((0 : Int) != 0) = false from rfl, h2, Option.bind_some, List.getElem?_cons_zero, List.getElem?_cons_succ, asLst_list, asInt_int, asBool_bool, asStr_str, cond_true, cond_false]
    have : sg false z.natAbs = z := by unfold sg; simp; omega
    rw [this]

theorem nparse_bad {l : List UInt8} (h : pz l = none) (hl : l.length ≤ 1000000000) : Ev En 79 [sF l] [.list 1 [], .bool false, .int .i64 10] := by
  have hcp := fun n => @cutpre_run n l
  by_cases h45 : l.head? = some 45
  · obtain ⟨t, rfl⟩ : ∃ t, l = 45 :: t := by
      cases l with
      | nil => cases h45
      | cons c t => simp at h45; subst h45; exact ⟨t, rfl⟩
    simp only [List.length_cons] at hl
    by_cases hc : canon t
    · have hv : vD t = 0 := by
        apply Classical.byContradiction
        intro q
        rw [pz_neg hc q] at h; cases h
      obtain ⟨n1, h1⟩ := natParse_ev (l := t) hc (by omega) (by rw [hv, dg_zero]; simp)
      rw [hv] at h1
      obtain ⟨n3, h3⟩ := natBits_ev (x := 0) (by rw [dg_zero]; simp)
      refine Ev.of (n1 + n3 + 3) fun n hn => ?_
      obtain ⟨n, rfl⟩ : ∃ m, n = m + 3 := ⟨n - 3, by omega⟩
      rw [num_Parse_eq, hcp]
      simp (disch := omega) only [List.head?_cons, if_true, List.tail_cons, h1, decide_true, show ((0 : Int) != 0) = false from rfl, h3, bitsN_zero.2 rfl, Option.bind_some, List.getElem?_cons_zero, List.getElem?_cons_succ, asLst_list, asInt_int, asBool_bool, asStr_str, cond_true, cond_false]
      rfl
    · obtain ⟨n1, h1⟩ := natParse_bad (l := t) hc (by omega)
      refine Ev.of (n1 + 3) fun n hn => ?_
      obtain ⟨n, rfl⟩ : ∃ m, n = m + 3 := ⟨n - 3, by omega⟩
      rw [num_Parse_eq, hcp]
      simp (disch := omega) only [List.head?_cons, if_true, List.tail_cons, h1, decide_true, show ((10 : Int) != 0) = true from rfl, Option.bind_some, List.getElem?_cons_zero, List.getElem?_cons_succ, asLst_list, asInt_int, asBool_bool, asStr_str, cond_true, cond_false]
  · have hc : ¬ canon l := fun hc => by rw [pz_pos hc] at h; cases h
    obtain ⟨n1, h1⟩ := natParse_bad (l := l) hc hl
    refine Ev.of (n1 + 3) fun n hn => ?_
    obtain ⟨n, rfl⟩ : ∃ m, n = m + 3 := ⟨n - 3, by omega⟩
    rw [num_Parse_eq, hcp, if_neg h45, decide_eq_false h45]
    simp (disch := omega) only [h1, show ((10 : Int) != 0) = true from rfl, Option.bind_some, List.getElem?_cons_zero, List.getElem?_cons_succ, asLst_list, asInt_int, asBool_bool, asStr_str, cond_true, cond_false]

end Rf
