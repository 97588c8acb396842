/- The program's fractions (package rat): each function by what its numbers are. -/
import Derived.Test.YtebaohjeodeaoaaGreatDoorNum
import Derived.Test.YtebaohjeodeaoaaGreatDoorEqJoinA
import Derived.Test.YtebaohjeodeaoaaGreatDoorEqJoinS
set_option linter.unusedSimpArgs false
set_option linter.unusedVariables false
set_option maxHeartbeats 2000000
namespace Rf
open Go

theorem zl_nat (n : Nat) : zl (n : Int) = nL n := rfl
theorem zb_nat (n : Nat) : zb (n : Int) = .bool false := by unfold zb; rw [decide_eq_false (by omega)]
theorem nL_zero : nL 0 = .list 1 [] := by unfold nL; rw [dg_zero]; rfl

/-- a denominator, none counts as 1 -/
def dn (d : Nat) : Nat := if d = 0 then 1 else d

theorem dn_pos {d : Nat} (h : d ≠ 0) : dn d = d := by unfold dn; rw [if_neg h]
theorem dn_den (q : Rat) : dn q.den = q.den := dn_pos q.den_nz
theorem dn_lt {d k : Nat} (h : dn d < 2 ^ k) : d < 2 ^ k := by unfold dn at h; split at h <;> omega

theorem one_run : Ev En 80 [] [nL 1, .bool false] := by
  obtain ⟨n1, h1⟩ := nof_ev (z := 1) (by omega) (by omega)
  refine Ev.of n1 fun n hn => ?_
  rw [rat_one_eq]
  simp (disch := omega) only [h1, Option.bind_some, List.getElem?_cons_zero, List.getElem?_cons_succ, asLst_list, asInt_int, asBool_bool, asStr_str, cond_true, cond_false]
  rfl

theorem nsign_nat {d k : Nat} (hk : k ≤ 100000000000) (hd : d < 2 ^ k) : Ev En 110 [nL d, .bool false] [.int .i64 (if d = 0 then 0 else 1)] := by
  have h := nsign_ev (z := (d : Int)) hk hd
  rw [zl_nat, zb_nat] at h
  by_cases h0 : d = 0
  · subst h0; exact h
  · rw [if_neg h0]
    rwa [Int.sign_eq_one_of_pos (by omega)] at h

theorem den_ev {l : List FV} {b : Bool} {d k : Nat} (hk : k ≤ 100000000000) (hd : d < 2 ^ k) : Ev En 86 [.list 1 l, .bool b, nL d, .bool false] [nL (dn d), .bool false] := by
  obtain ⟨n1, h1⟩ := nsign_nat hk hd
  obtain ⟨n2, h2⟩ := one_run
  refine Ev.of (n1 + n2) fun n hn => ?_
  rw [rat_Rat_Den_eq]
  unfold dn
  by_cases h0 : d = 0
  · subst h0
    simp (disch := omega) only [h1, h2, if_true, beq_self_eq_true, Option.bind_some, List.getElem?_cons_zero, List.getElem?_cons_succ, asLst_list, asInt_int, asBool_bool, asStr_str, cond_true, cond_false]
  · rw [if_neg h0] at h1 ⊢
    simp (disch := omega) only [h1, show ((1 : Int) == 0) = false from rfl, Option.bind_some, List.getElem?_cons_zero, List.getElem?_cons_succ, asLst_list, asInt_int, asBool_bool, asStr_str, cond_true, cond_false]

theorem of_ev {z : Int} (h1 : -9223372036854775808 ≤ z) (h2 : z ≤ 9223372036854775807) : Ev En 45 [.int .i64 z] [zl ((z : Rat)).num, zb ((z : Rat)).num, nL ((z : Rat)).den, .bool false] := by
  obtain ⟨n1, g1⟩ := nof_ev h1 h2
  obtain ⟨n2, g2⟩ := one_run
  refine Ev.of (n1 + n2) fun n hn => ?_
  rw [rat_Of_eq]
  simp (disch := omega) only [g1, g2, Option.bind_some, List.getElem?_cons_zero, List.getElem?_cons_succ, asLst_list, asInt_int, asBool_bool, asStr_str, cond_true, cond_false]
  rfl

theorem pow_one_le {k : Nat} (h : 1 ≤ k) : 1 < 2 ^ k := Nat.one_lt_two_pow (by omega)

theorem make_pos {a b : Int} (hb : 0 < b) : (Rat.divInt a b).num = a.tdiv (Nat.gcd a.natAbs b.natAbs : Nat) ∧ ((Rat.divInt a b).den : Int) = b.tdiv (Nat.gcd a.natAbs b.natAbs : Nat) := by
  have hg : b.gcd a = Nat.gcd a.natAbs b.natAbs := by rw [Int.gcd, Nat.gcd_comm]
  have d1 : ((b.gcd a : Nat) : Int) ∣ a := Int.gcd_dvd_right _ _
  have d2 : ((b.gcd a : Nat) : Int) ∣ b := Int.gcd_dvd_left _ _
  rw [← hg]
  constructor
  · rw [Rat.num_divInt, Int.sign_eq_one_of_pos hb, Int.one_mul, Int.tdiv_eq_ediv_of_dvd d1]
  · rw [Rat.den_divInt, if_neg (by omega), Int.tdiv_eq_ediv_of_dvd d2]
    have : ((b.natAbs : Nat) : Int) = b := by omega
    rw [Int.natCast_ediv, this]

theorem make_ev {a b : Int} {k : Nat} (hk : k ≤ 100000000000) (hk1 : 1 ≤ k) (h0 : b ≠ 0) (ha : a.natAbs < 2 ^ k) (hb : b.natAbs < 2 ^ k) :
    Ev En 81 [zl a, zb a, zl b, zb b] [zl (Rat.divInt a b).num, zb (Rat.divInt a b).num, nL (Rat.divInt a b).den, .bool false, .int .i64 0] := by
  obtain ⟨n1, h1⟩ := nsign_ev hk hb
  have key : ∀ (a b : Int), 0 < b → a.natAbs < 2 ^ k → b.natAbs < 2 ^ k → ∃ n0, ∀ n, n0 ≤ n →
      ((evF En n 124 [zl a, zb a]).bind fun r8 => (asLst 1 (r8[0]?)).bind fun v9 => (evF En n 124 [zl b, zb b]).bind fun r10 => (asLst 1 (r10[0]?)).bind fun v11 => (evF En n 125 [.list 1 v9, .list 1 v11]).bind fun r12 => (asLst 1 (r12[0]?)).bind fun v13 => (evF En n 111 [.bool false, .list 1 v13]).bind fun r14 => (asLst 1 (r14[0]?)).bind fun v15 => (asBool (r14[1]?)).bind fun c16 => (evF En n 80 []).bind fun r17 => (asLst 1 (r17[0]?)).bind fun v18 => (asBool (r17[1]?)).bind fun c19 => (evF En n 88 [.list 1 v15, .bool c16, .list 1 v18, .bool c19]).bind fun r20 => (asInt .i64 (r20[0]?)).bind fun n21 => 
      (bif (n21 != 0) then (evF En n 126 [zl a, zb a, .list 1 v15, .bool c16]).bind fun r22 => (asLst 1 (r22[0]?)).bind fun v23 => (asBool (r22[1]?)).bind fun c24 => (asLst 1 (r22[2]?)).bind fun v25 => (asBool (r22[3]?)).bind fun c26 => (asInt .i64 (r22[4]?)).bind fun n27 => (evF En n 126 [zl b, zb b, .list 1 v15, .bool c16]).bind fun r28 => (asLst 1 (r28[0]?)).bind fun v29 => (asBool (r28[1]?)).bind fun c30 => (asLst 1 (r28[2]?)).bind fun v31 => (asBool (r28[3]?)).bind fun c32 => (asInt .i64 (r28[4]?)).bind fun n33 => some [.list 1 v23, .bool c24, .list 1 v29, .bool c30, .int .i64 0]
       else some [zl a, zb a, zl b, zb b, .int .i64 0])) = some [zl (Rat.divInt a b).num, zb (Rat.divInt a b).num, nL (Rat.divInt a b).den, .bool false, .int .i64 0] := by
    intro a b hb0 ha hb
    obtain ⟨e1, e2⟩ := make_pos (a := a) hb0
    have hg0 : 0 < Nat.gcd a.natAbs b.natAbs := Nat.gcd_pos_of_pos_right _ (by omega)
    have hgb : Nat.gcd a.natAbs b.natAbs < 2 ^ k := Nat.lt_of_le_of_lt (Nat.le_of_dvd (by omega) (Nat.gcd_dvd_right _ _)) hb
    have la := len_of ha hk
    have lb := len_of hb hk
    obtain ⟨n2, h2⟩ := nabs_ev (z := a)
    obtain ⟨n3, h3⟩ := nabs_ev (z := b)
    obtain ⟨n4, h4⟩ := natGcd_ev (x := a.natAbs) (y := b.natAbs) (by omega) (by omega)
    obtain ⟨n5, h5⟩ := mk_ev (s := false) hk hgb
    obtain ⟨n6, h6⟩ := one_run
    have hs : sg false (Nat.gcd a.natAbs b.natAbs) = ((Nat.gcd a.natAbs b.natAbs : Nat) : Int) := by simp [sg]
    rw [hs] at h5
    generalize Nat.gcd a.natAbs b.natAbs = g at *
    obtain ⟨n7, h7⟩ := ncmp_ev (z := (g : Int)) (w := 1) hk hgb (pow_one_le hk1)
    obtain ⟨n8, h8⟩ := nqr_ev (z := a) (w := (g : Int)) hk (by omega) ha hgb
    obtain ⟨n9, h9⟩ := nqr_ev (z := b) (w := (g : Int)) hk (by omega) hb hgb
    have z1 : zl (1 : Int) = nL 1 := rfl
    have z2 : zb (1 : Int) = .bool false := rfl
    rw [z1, z2] at h7
    rw [← e1] at h8
    rw [← e2] at h9
    refine ⟨n2 + n3 + n4 + n5 + n6 + n7 + n8 + n9, fun n hn => ?_⟩
    simp (disch := omega) only [h2, h3, h4, h5, h6, h7, Option.bind_some, List.getElem?_cons_zero, List.getElem?_cons_succ, asLst_list, asInt_int, asBool_bool, asStr_str, cond_true, cond_false]
    by_cases hg1 : g = 1
    · subst hg1
      rw [show ((cmpZi ((1 : Nat) : Int) 1) != 0) = false from rfl]
      simp only [cond_false]
      rw [show (((1 : Nat) : Int)) = 1 from rfl, Int.tdiv_one] at e1 e2
      have f1 : zl b = nL (Rat.divInt a b).den := by rw [← zl_nat, e2]
      have f2 : zb b = .bool false := by rw [← zb_nat (Rat.divInt a b).den, e2]
      rw [e1, f1, f2]
    · have : (cmpZi (g : Int) 1 != 0) = true := by
        unfold cmpZi
        rw [if_neg (by omega), if_pos (by omega)]; rfl
      rw [this]
      have f2 : FV.bool (decide (((Rat.divInt a b).den : Int) < 0)) = .bool false := zb_nat _
      simp (disch := omega) only [h8, h9, Option.bind_some, List.getElem?_cons_zero, List.getElem?_cons_succ, asLst_list, asInt_int, asBool_bool, asStr_str, cond_true, cond_false]
      rw [f2]; rfl
  rcases Int.lt_or_gt_of_ne h0 with h | h
  · obtain ⟨n2, h2⟩ := nneg_ev hk ha
    obtain ⟨n3, h3⟩ := nneg_ev hk hb
    obtain ⟨n4, h4⟩ := key (-a) (-b) (by omega) (by rw [Int.natAbs_neg]; exact ha) (by rw [Int.natAbs_neg]; exact hb)
    rw [Rat.neg_divInt_neg] at h4
    refine Ev.of (n1 + n2 + n3 + n4) fun n hn => ?_
    rw [rat_Make_eq]
    rw [Int.sign_eq_neg_one_of_neg h] at h1
    simp (disch := omega) only [h1, h2, h3, show ((-1 : Int) == 0) = false from rfl, show ((-1 : Int) == -1) = true from rfl, Option.bind_some, List.getElem?_cons_zero, List.getElem?_cons_succ, asLst_list, asInt_int, asBool_bool, asStr_str, cond_true, cond_false]
    exact h4 n (by omega)
  · obtain ⟨n4, h4⟩ := key a b h ha hb
    refine Ev.of (n1 + n4) fun n hn => ?_
    rw [rat_Make_eq]
    rw [Int.sign_eq_one_of_pos h] at h1
    simp (disch := omega) only [h1, show ((1 : Int) == 0) = false from rfl, show ((1 : Int) == -1) = false from rfl, Option.bind_some, List.getElem?_cons_zero, List.getElem?_cons_succ, asLst_list, asInt_int, asBool_bool, asStr_str, cond_true, cond_false]
    exact h4 n (by omega)

theorem make_zero {a : Int} {l : List FV} {b : Bool} : Ev En 81 [.list 1 l, .bool b, nL 0, .bool false] [.list 1 [], .bool false, .list 1 [], .bool false, .int .i64 12] := by
  obtain ⟨n1, h1⟩ := nsign_nat (d := 0) (k := 1) (by omega) (by omega)
  refine Ev.of n1 fun n hn => ?_
  rw [rat_Make_eq]
  simp (disch := omega) only [h1, if_true, beq_self_eq_true, Option.bind_some, List.getElem?_cons_zero, List.getElem?_cons_succ, asLst_list, asInt_int, asBool_bool, asStr_str, cond_true, cond_false]

theorem den_bd {q : Rat} {k d : Nat} (h : Bd k q) (hd : dn d = q.den) : d < 2 ^ k := dn_lt (hd ▸ h.2)

theorem rsign_ev {q : Rat} {k : Nat} (hk : k ≤ 100000000000) (h : Bd k q) {l : List FV} {b : Bool} : Ev En 95 [zl q.num, zb q.num, .list 1 l, .bool b] [.int .i64 q.num.sign] := by
  obtain ⟨n1, h1⟩ := nsign_ev hk h.1
  refine Ev.of n1 fun n hn => ?_
  rw [rat_Rat_Sign_eq]
  simp (disch := omega) only [h1, Option.bind_some, List.getElem?_cons_zero, List.getElem?_cons_succ, asLst_list, asInt_int, asBool_bool, asStr_str, cond_true, cond_false]

theorem rneg_ev {q : Rat} {k d : Nat} (hk : k ≤ 100000000000) (h : Bd k q) (hd : dn d = q.den) : Ev En 47 [zl (q).num, zb (q).num, nL (d), .bool false] [zl (-q).num, zb (-q).num, nL (-q).den, .bool false] := by
  obtain ⟨n1, h1⟩ := nneg_ev hk h.1
  obtain ⟨n2, h2⟩ := den_ev (l := (dg 4294967296 q.num.natAbs).map d32) (b := decide (q.num < 0)) hk (den_bd h hd)
  rw [hd] at h2
  refine Ev.of (n1 + n2) fun n hn => ?_
  rw [rat_Rat_Neg_eq]
  simp (disch := omega) only [h1, h2, Option.bind_some, List.getElem?_cons_zero, List.getElem?_cons_succ, asLst_list, asInt_int, asBool_bool, asStr_str, cond_true, cond_false]
  rfl

theorem rmul_ev {q r : Rat} {k d e : Nat} (hk : k + k ≤ 100000000000) (hk1 : 1 ≤ k) (h : Bd k q) (h' : Bd k r) (hd : dn d = q.den) (he : dn e = r.den) : Ev En 46 [zl (q).num, zb (q).num, nL (d), .bool false, zl (r).num, zb (r).num, nL (e), .bool false] [zl (q * r).num, zb (q * r).num, nL (q * r).den, .bool false] := by
  obtain ⟨n1, h1⟩ := nmul_ev hk h.1 h'.1
  obtain ⟨n2, h2⟩ := den_ev (l := (dg 4294967296 q.num.natAbs).map d32) (b := decide (q.num < 0)) (by omega : k ≤ 100000000000) (den_bd h hd)
  obtain ⟨n3, h3⟩ := den_ev (l := (dg 4294967296 r.num.natAbs).map d32) (b := decide (r.num < 0)) (by omega : k ≤ 100000000000) (den_bd h' he)
  rw [hd] at h2
  rw [he] at h3
  obtain ⟨n4, h4⟩ := nmul_ev (z := (q.den : Int)) (w := (r.den : Int)) hk h.2 h'.2
  rw [zl_nat, zb_nat, zl_nat, zb_nat] at h4
  obtain ⟨n5, h5⟩ := make_ev (a := q.num * r.num) (b := (q.den : Int) * r.den) (k := k + k) hk (by omega) (den_mul_ne q r) (by rw [Int.natAbs_mul]; exact lt_pow_mul h.1 h'.1) (by rw [Int.natAbs_mul]; exact lt_pow_mul h.2 h'.2)
  rw [← mul_divInt] at h5
  refine Ev.of (n1 + n2 + n3 + n4 + n5) fun n hn => ?_
  rw [rat_Rat_Mul_eq]
  try simp (disch := omega) only [h1, Option.bind_some, List.getElem?_cons_zero, List.getElem?_cons_succ, asLst_list, asInt_int, asBool_bool, asStr_str, cond_true, cond_false]
  try simp (disch := omega) only [h2, Option.bind_some, List.getElem?_cons_zero, List.getElem?_cons_succ, asLst_list, asInt_int, asBool_bool, asStr_str, cond_true, cond_false]
  try simp (disch := omega) only [h3, Option.bind_some, List.getElem?_cons_zero, List.getElem?_cons_succ, asLst_list, asInt_int, asBool_bool, asStr_str, cond_true, cond_false]
  try simp (disch := omega) only [h4, Option.bind_some, List.getElem?_cons_zero, List.getElem?_cons_succ, asLst_list, asInt_int, asBool_bool, asStr_str, cond_true, cond_false]
  try simp (disch := omega) only [h5, Option.bind_some, List.getElem?_cons_zero, List.getElem?_cons_succ, asLst_list, asInt_int, asBool_bool, asStr_str, cond_true, cond_false]

theorem cross_bd {k : Nat} {r s : Rat} (h : Bd k r) (h' : Bd k s) : (r.num * s.den).natAbs < 2 ^ (k + k) ∧ (s.num * r.den).natAbs < 2 ^ (k + k) := cross_lt h h'

theorem rcmp_ev {q r : Rat} {k d e : Nat} (hk : k + k ≤ 100000000000) (h : Bd k q) (h' : Bd k r) (hd : dn d = q.den) (he : dn e = r.den) : Ev En 96 [zl (q).num, zb (q).num, nL (d), .bool false, zl (r).num, zb (r).num, nL (e), .bool false] [.int .i64 (cmpZi (q.num * r.den) (r.num * q.den))] := by
  obtain ⟨c1, c2⟩ := cross_bd h h'
  obtain ⟨n2, h2⟩ := den_ev (l := (dg 4294967296 q.num.natAbs).map d32) (b := decide (q.num < 0)) (by omega : k ≤ 100000000000) (den_bd h hd)
  obtain ⟨n3, h3⟩ := den_ev (l := (dg 4294967296 r.num.natAbs).map d32) (b := decide (r.num < 0)) (by omega : k ≤ 100000000000) (den_bd h' he)
  rw [hd] at h2
  rw [he] at h3
  obtain ⟨n1, h1⟩ := nmul_ev (z := q.num) (w := (r.den : Int)) hk h.1 h'.2
  rw [zl_nat, zb_nat] at h1
  obtain ⟨n4, h4⟩ := nmul_ev (z := r.num) (w := (q.den : Int)) hk h'.1 h.2
  rw [zl_nat, zb_nat] at h4
  obtain ⟨n5, h5⟩ := ncmp_ev hk c1 c2
  refine Ev.of (n1 + n2 + n3 + n4 + n5) fun n hn => ?_
  rw [rat_Rat_Cmp_eq]
  try simp (disch := omega) only [h3, Option.bind_some, List.getElem?_cons_zero, List.getElem?_cons_succ, asLst_list, asInt_int, asBool_bool, asStr_str, cond_true, cond_false]
  try simp (disch := omega) only [h1, Option.bind_some, List.getElem?_cons_zero, List.getElem?_cons_succ, asLst_list, asInt_int, asBool_bool, asStr_str, cond_true, cond_false]
  try simp (disch := omega) only [h2, Option.bind_some, List.getElem?_cons_zero, List.getElem?_cons_succ, asLst_list, asInt_int, asBool_bool, asStr_str, cond_true, cond_false]
  try simp (disch := omega) only [h4, Option.bind_some, List.getElem?_cons_zero, List.getElem?_cons_succ, asLst_list, asInt_int, asBool_bool, asStr_str, cond_true, cond_false]
  try simp (disch := omega) only [h5, Option.bind_some, List.getElem?_cons_zero, List.getElem?_cons_succ, asLst_list, asInt_int, asBool_bool, asStr_str, cond_true, cond_false]

theorem one_cmp {d k : Nat} (hk : k ≤ 100000000000) (hk1 : 1 ≤ k) (hd : d < 2 ^ k) (h0 : d ≠ 0) : ∃ n0, ∀ n, n0 ≤ n → evF En n 88 [nL d, .bool false, nL 1, .bool false] = some [.int .i64 (if d = 1 then 0 else 1)] := by
  obtain ⟨n7, h7⟩ := ncmp_ev (z := (d : Int)) (w := 1) hk hd (pow_one_le hk1)
  rw [zl_nat, zb_nat, show zl (1 : Int) = nL 1 from rfl, show zb (1 : Int) = .bool false from rfl] at h7
  refine ⟨n7, fun n hn => ?_⟩
  rw [h7 n hn]
  unfold cmpZi
  rw [if_neg (by omega)]
  by_cases h : d = 1
  · subst h; rfl
  · rw [if_pos (by omega), if_neg h]

theorem rat_add_one {q r : Rat} (hq : q.den = 1) (hr : r.den = 1) : (q + r).num = q.num + r.num ∧ (q + r).den = 1 ∧ (q - r).num = q.num - r.num ∧ (q - r).den = 1 := by
  obtain ⟨y, rfl⟩ : ∃ y : Int, q = y := ⟨q.num, Rat.ext rfl hq⟩
  obtain ⟨z, rfl⟩ : ∃ y : Int, r = y := ⟨r.num, Rat.ext rfl hr⟩
  rw [← Rat.intCast_add, ← Rat.intCast_sub]
  exact ⟨rfl, rfl, rfl, rfl⟩

theorem radd_ev {q r : Rat} {k d e : Nat} (hk : k + k + 1 ≤ 100000000000) (hk1 : 1 ≤ k) (h : Bd k q) (h' : Bd k r) (hd : dn d = q.den) (he : dn e = r.den) : Ev En 43 [zl (q).num, zb (q).num, nL (d), .bool false, zl (r).num, zb (r).num, nL (e), .bool false] [zl (q + r).num, zb (q + r).num, nL (q + r).den, .bool false] := by
  obtain ⟨c1, c2⟩ := cross_bd h h'
  obtain ⟨n2, h2⟩ := den_ev (l := (dg 4294967296 q.num.natAbs).map d32) (b := decide (q.num < 0)) (by omega : k ≤ 100000000000) (den_bd h hd)
  obtain ⟨n3, h3⟩ := den_ev (l := (dg 4294967296 r.num.natAbs).map d32) (b := decide (r.num < 0)) (by omega : k ≤ 100000000000) (den_bd h' he)
  rw [hd] at h2
  rw [he] at h3
  obtain ⟨n1, h1⟩ := one_run
  obtain ⟨n4, h4⟩ := one_cmp (by omega) hk1 h.2 q.den_nz
  obtain ⟨n5, h5⟩ := one_cmp (by omega) hk1 h'.2 r.den_nz
  obtain ⟨n6, h6⟩ := nmul_ev (z := q.num) (w := (r.den : Int)) (by omega) h.1 h'.2
  obtain ⟨n7, h7⟩ := nmul_ev (z := r.num) (w := (q.den : Int)) (by omega) h'.1 h.2
  obtain ⟨n8, h8⟩ := nmul_ev (z := (q.den : Int)) (w := (r.den : Int)) (by omega) h.2 h'.2
  rw [zl_nat, zb_nat] at h6 h7
  rw [zl_nat, zb_nat, zl_nat, zb_nat] at h8
  obtain ⟨n9, h9⟩ := nadd_ev (k := k + k) (by omega) c1 c2
  have cs : (q.num * r.den + r.num * q.den).natAbs < 2 ^ (k + k + 1) := by rw [Nat.pow_succ]; omega
  have cd : ((q.den : Int) * r.den).natAbs < 2 ^ (k + k + 1) := by rw [Int.natAbs_mul, Nat.pow_succ]; have := lt_pow_mul h.2 h'.2; simp only [Int.natAbs_natCast]; omega
  obtain ⟨n10, h10⟩ := make_ev hk (by omega) (den_mul_ne q r) cs cd
  rw [← add_divInt] at h10
  by_cases e1 : q.den = 1
  · by_cases e2 : r.den = 1
    · obtain ⟨n11, h11⟩ := nadd_ev (z := q.num) (w := r.num) (k := k) (by omega) h.1 h'.1
      refine Ev.of (n1 + n2 + n3 + n4 + n5 + n11 + 1) fun n hn => ?_
      obtain ⟨n, rfl⟩ : ∃ m, n = m + 1 := ⟨n - 1, by omega⟩
      rw [rat_Rat_Add_eq, rat_joined_67_eq]
      rw [e1] at h2 h4
      rw [e2] at h3 h5
      try simp (disch := omega) only [h2, Option.bind_some, List.getElem?_cons_zero, List.getElem?_cons_succ, asLst_list, asInt_int, asBool_bool, asStr_str, cond_true, cond_false]
      try simp (disch := omega) only [h1, Option.bind_some, List.getElem?_cons_zero, List.getElem?_cons_succ, asLst_list, asInt_int, asBool_bool, asStr_str, cond_true, cond_false]
      try simp (disch := omega) only [h4, if_true, beq_self_eq_true, Option.bind_some, List.getElem?_cons_zero, List.getElem?_cons_succ, asLst_list, asInt_int, asBool_bool, asStr_str, cond_true, cond_false]
      try simp (disch := omega) only [h3, Option.bind_some, List.getElem?_cons_zero, List.getElem?_cons_succ, asLst_list, asInt_int, asBool_bool, asStr_str, cond_true, cond_false]
      try simp (disch := omega) only [h1, Option.bind_some, List.getElem?_cons_zero, List.getElem?_cons_succ, asLst_list, asInt_int, asBool_bool, asStr_str, cond_true, cond_false]
      try simp (disch := omega) only [h5, if_true, beq_self_eq_true, Option.bind_some, List.getElem?_cons_zero, List.getElem?_cons_succ, asLst_list, asInt_int, asBool_bool, asStr_str, cond_true, cond_false]
      try simp (disch := omega) only [h11, Option.bind_some, List.getElem?_cons_zero, List.getElem?_cons_succ, asLst_list, asInt_int, asBool_bool, asStr_str, cond_true, cond_false]
      try simp (disch := omega) only [h1, Option.bind_some, List.getElem?_cons_zero, List.getElem?_cons_succ, asLst_list, asInt_int, asBool_bool, asStr_str, cond_true, cond_false]
      have a1 := (rat_add_one e1 e2).1
      have a2 := (rat_add_one e1 e2).2.1
      rw [a1, a2]
    · refine Ev.of (n1 + n2 + n3 + n4 + n5 + n6 + n7 + n8 + n9 + n10 + 1) fun n hn => ?_
      obtain ⟨n, rfl⟩ : ∃ m, n = m + 1 := ⟨n - 1, by omega⟩
      rw [rat_Rat_Add_eq, rat_joined_67_eq]
      rw [if_pos e1] at h4
      rw [if_neg e2] at h5
      try simp (disch := omega) only [h2, Option.bind_some, List.getElem?_cons_zero, List.getElem?_cons_succ, asLst_list, asInt_int, asBool_bool, asStr_str, cond_true, cond_false]
      try simp (disch := omega) only [h1, Option.bind_some, List.getElem?_cons_zero, List.getElem?_cons_succ, asLst_list, asInt_int, asBool_bool, asStr_str, cond_true, cond_false]
      try simp (disch := omega) only [h4, beq_self_eq_true, show ((1 : Int) == 0) = false from rfl, Option.bind_some, List.getElem?_cons_zero, List.getElem?_cons_succ, asLst_list, asInt_int, asBool_bool, asStr_str, cond_true, cond_false]
      try simp (disch := omega) only [h3, Option.bind_some, List.getElem?_cons_zero, List.getElem?_cons_succ, asLst_list, asInt_int, asBool_bool, asStr_str, cond_true, cond_false]
      try simp (disch := omega) only [h1, Option.bind_some, List.getElem?_cons_zero, List.getElem?_cons_succ, asLst_list, asInt_int, asBool_bool, asStr_str, cond_true, cond_false]
      try simp (disch := omega) only [h5, show ((1 : Int) == 0) = false from rfl, Option.bind_some, List.getElem?_cons_zero, List.getElem?_cons_succ, asLst_list, asInt_int, asBool_bool, asStr_str, cond_true, cond_false]
      try simp (disch := omega) only [h3, Option.bind_some, List.getElem?_cons_zero, List.getElem?_cons_succ, asLst_list, asInt_int, asBool_bool, asStr_str, cond_true, cond_false]
      try simp (disch := omega) only [h6, Option.bind_some, List.getElem?_cons_zero, List.getElem?_cons_succ, asLst_list, asInt_int, asBool_bool, asStr_str, cond_true, cond_false]
      try simp (disch := omega) only [h2, Option.bind_some, List.getElem?_cons_zero, List.getElem?_cons_succ, asLst_list, asInt_int, asBool_bool, asStr_str, cond_true, cond_false]
      try simp (disch := omega) only [h7, Option.bind_some, List.getElem?_cons_zero, List.getElem?_cons_succ, asLst_list, asInt_int, asBool_bool, asStr_str, cond_true, cond_false]
      try simp (disch := omega) only [h9, Option.bind_some, List.getElem?_cons_zero, List.getElem?_cons_succ, asLst_list, asInt_int, asBool_bool, asStr_str, cond_true, cond_false]
      try simp (disch := omega) only [h8, Option.bind_some, List.getElem?_cons_zero, List.getElem?_cons_succ, asLst_list, asInt_int, asBool_bool, asStr_str, cond_true, cond_false]
      try simp (disch := omega) only [h10, Option.bind_some, List.getElem?_cons_zero, List.getElem?_cons_succ, asLst_list, asInt_int, asBool_bool, asStr_str, cond_true, cond_false]
  · refine Ev.of (n1 + n2 + n3 + n4 + n5 + n6 + n7 + n8 + n9 + n10 + 1) fun n hn => ?_
    obtain ⟨n, rfl⟩ : ∃ m, n = m + 1 := ⟨n - 1, by omega⟩
    rw [rat_Rat_Add_eq, rat_joined_67_eq]
    rw [if_neg e1] at h4
    try simp (disch := omega) only [h2, Option.bind_some, List.getElem?_cons_zero, List.getElem?_cons_succ, asLst_list, asInt_int, asBool_bool, asStr_str, cond_true, cond_false]
    try simp (disch := omega) only [h1, Option.bind_some, List.getElem?_cons_zero, List.getElem?_cons_succ, asLst_list, asInt_int, asBool_bool, asStr_str, cond_true, cond_false]
    try simp (disch := omega) only [h4, beq_self_eq_true, show ((1 : Int) == 0) = false from rfl, Option.bind_some, List.getElem?_cons_zero, List.getElem?_cons_succ, asLst_list, asInt_int, asBool_bool, asStr_str, cond_true, cond_false]
    try simp (disch := omega) only [h3, Option.bind_some, List.getElem?_cons_zero, List.getElem?_cons_succ, asLst_list, asInt_int, asBool_bool, asStr_str, cond_true, cond_false]
    try simp (disch := omega) only [h1, Option.bind_some, List.getElem?_cons_zero, List.getElem?_cons_succ, asLst_list, asInt_int, asBool_bool, asStr_str, cond_true, cond_false]
    try simp (disch := omega) only [h5, show ((1 : Int) == 0) = false from rfl, Option.bind_some, List.getElem?_cons_zero, List.getElem?_cons_succ, asLst_list, asInt_int, asBool_bool, asStr_str, cond_true, cond_false]
    try simp (disch := omega) only [h3, Option.bind_some, List.getElem?_cons_zero, List.getElem?_cons_succ, asLst_list, asInt_int, asBool_bool, asStr_str, cond_true, cond_false]
    try simp (disch := omega) only [h6, Option.bind_some, List.getElem?_cons_zero, List.getElem?_cons_succ, asLst_list, asInt_int, asBool_bool, asStr_str, cond_true, cond_false]
    try simp (disch := omega) only [h2, Option.bind_some, List.getElem?_cons_zero, List.getElem?_cons_succ, asLst_list, asInt_int, asBool_bool, asStr_str, cond_true, cond_false]
    try simp (disch := omega) only [h7, Option.bind_some, List.getElem?_cons_zero, List.getElem?_cons_succ, asLst_list, asInt_int, asBool_bool, asStr_str, cond_true, cond_false]
    try simp (disch := omega) only [h9, Option.bind_some, List.getElem?_cons_zero, List.getElem?_cons_succ, asLst_list, asInt_int, asBool_bool, asStr_str, cond_true, cond_false]
    try simp (disch := omega) only [h8, Option.bind_some, List.getElem?_cons_zero, List.getElem?_cons_succ, asLst_list, asInt_int, asBool_bool, asStr_str, cond_true, cond_false]
    try simp (disch := omega) only [h10, Option.bind_some, List.getElem?_cons_zero, List.getElem?_cons_succ, asLst_list, asInt_int, asBool_bool, asStr_str, cond_true, cond_false]


theorem rsub_ev {q r : Rat} {k d e : Nat} (hk : k + k + 1 ≤ 100000000000) (hk1 : 1 ≤ k) (h : Bd k q) (h' : Bd k r) (hd : dn d = q.den) (he : dn e = r.den) : Ev En 44 [zl (q).num, zb (q).num, nL (d), .bool false, zl (r).num, zb (r).num, nL (e), .bool false] [zl (q - r).num, zb (q - r).num, nL (q - r).den, .bool false] := by
  obtain ⟨c1, c2⟩ := cross_bd h h'
  obtain ⟨n2, h2⟩ := den_ev (l := (dg 4294967296 q.num.natAbs).map d32) (b := decide (q.num < 0)) (by omega : k ≤ 100000000000) (den_bd h hd)
  obtain ⟨n3, h3⟩ := den_ev (l := (dg 4294967296 r.num.natAbs).map d32) (b := decide (r.num < 0)) (by omega : k ≤ 100000000000) (den_bd h' he)
  rw [hd] at h2
  rw [he] at h3
  obtain ⟨n1, h1⟩ := one_run
  obtain ⟨n4, h4⟩ := one_cmp (by omega) hk1 h.2 q.den_nz
  obtain ⟨n5, h5⟩ := one_cmp (by omega) hk1 h'.2 r.den_nz
  obtain ⟨n6, h6⟩ := nmul_ev (z := q.num) (w := (r.den : Int)) (by omega) h.1 h'.2
  obtain ⟨n7, h7⟩ := nmul_ev (z := r.num) (w := (q.den : Int)) (by omega) h'.1 h.2
  obtain ⟨n8, h8⟩ := nmul_ev (z := (q.den : Int)) (w := (r.den : Int)) (by omega) h.2 h'.2
  rw [zl_nat, zb_nat] at h6 h7
  rw [zl_nat, zb_nat, zl_nat, zb_nat] at h8
  obtain ⟨n9, h9⟩ := nsub_ev (k := k + k) (by omega) c1 c2
  have cs : (q.num * r.den - r.num * q.den).natAbs < 2 ^ (k + k + 1) := by rw [Nat.pow_succ]; omega
  have cd : ((q.den : Int) * r.den).natAbs < 2 ^ (k + k + 1) := by rw [Int.natAbs_mul, Nat.pow_succ]; have := lt_pow_mul h.2 h'.2; simp only [Int.natAbs_natCast]; omega
  obtain ⟨n10, h10⟩ := make_ev hk (by omega) (den_mul_ne q r) cs cd
  rw [← sub_divInt] at h10
  by_cases e1 : q.den = 1
  · by_cases e2 : r.den = 1
    · obtain ⟨n11, h11⟩ := nsub_ev (z := q.num) (w := r.num) (k := k) (by omega) h.1 h'.1
      refine Ev.of (n1 + n2 + n3 + n4 + n5 + n11 + 1) fun n hn => ?_
      obtain ⟨n, rfl⟩ : ∃ m, n = m + 1 := ⟨n - 1, by omega⟩
      rw [rat_Rat_Sub_eq, rat_joined_83_eq]
      rw [e1] at h2 h4
      rw [e2] at h3 h5
      try simp (disch := omega) only [h2, Option.bind_some, List.getElem?_cons_zero, List.getElem?_cons_succ, asLst_list, asInt_int, asBool_bool, asStr_str, cond_true, cond_false]
      try simp (disch := omega) only [h1, Option.bind_some, List.getElem?_cons_zero, List.getElem?_cons_succ, asLst_list, asInt_int, asBool_bool, asStr_str, cond_true, cond_false]
      try simp (disch := omega) only [h4, if_true, beq_self_eq_true, Option.bind_some, List.getElem?_cons_zero, List.getElem?_cons_succ, asLst_list, asInt_int, asBool_bool, asStr_str, cond_true, cond_false]
      try simp (disch := omega) only [h3, Option.bind_some, List.getElem?_cons_zero, List.getElem?_cons_succ, asLst_list, asInt_int, asBool_bool, asStr_str, cond_true, cond_false]
      try simp (disch := omega) only [h1, Option.bind_some, List.getElem?_cons_zero, List.getElem?_cons_succ, asLst_list, asInt_int, asBool_bool, asStr_str, cond_true, cond_false]
      try simp (disch := omega) only [h5, if_true, beq_self_eq_true, Option.bind_some, List.getElem?_cons_zero, List.getElem?_cons_succ, asLst_list, asInt_int, asBool_bool, asStr_str, cond_true, cond_false]
      try simp (disch := omega) only [h11, Option.bind_some, List.getElem?_cons_zero, List.getElem?_cons_succ, asLst_list, asInt_int, asBool_bool, asStr_str, cond_true, cond_false]
      try simp (disch := omega) only [h1, Option.bind_some, List.getElem?_cons_zero, List.getElem?_cons_succ, asLst_list, asInt_int, asBool_bool, asStr_str, cond_true, cond_false]
      have a1 := (rat_add_one e1 e2).2.2.1
      have a2 := (rat_add_one e1 e2).2.2.2
      rw [a1, a2]
    · refine Ev.of (n1 + n2 + n3 + n4 + n5 + n6 + n7 + n8 + n9 + n10 + 1) fun n hn => ?_
      obtain ⟨n, rfl⟩ : ∃ m, n = m + 1 := ⟨n - 1, by omega⟩
      rw [rat_Rat_Sub_eq, rat_joined_83_eq]
      rw [if_pos e1] at h4
      rw [if_neg e2] at h5
      try simp (disch := omega) only [h2, Option.bind_some, List.getElem?_cons_zero, List.getElem?_cons_succ, asLst_list, asInt_int, asBool_bool, asStr_str, cond_true, cond_false]
      try simp (disch := omega) only [h1, Option.bind_some, List.getElem?_cons_zero, List.getElem?_cons_succ, asLst_list, asInt_int, asBool_bool, asStr_str, cond_true, cond_false]
      try simp (disch := omega) only [h4, beq_self_eq_true, show ((1 : Int) == 0) = false from rfl, Option.bind_some, List.getElem?_cons_zero, List.getElem?_cons_succ, asLst_list, asInt_int, asBool_bool, asStr_str, cond_true, cond_false]
      try simp (disch := omega) only [h3, Option.bind_some, List.getElem?_cons_zero, List.getElem?_cons_succ, asLst_list, asInt_int, asBool_bool, asStr_str, cond_true, cond_false]
      try simp (disch := omega) only [h1, Option.bind_some, List.getElem?_cons_zero, List.getElem?_cons_succ, asLst_list, asInt_int, asBool_bool, asStr_str, cond_true, cond_false]
      try simp (disch := omega) only [h5, show ((1 : Int) == 0) = false from rfl, Option.bind_some, List.getElem?_cons_zero, List.getElem?_cons_succ, asLst_list, asInt_int, asBool_bool, asStr_str, cond_true, cond_false]
      try simp (disch := omega) only [h3, Option.bind_some, List.getElem?_cons_zero, List.getElem?_cons_succ, asLst_list, asInt_int, asBool_bool, asStr_str, cond_true, cond_false]
      try simp (disch := omega) only [h6, Option.bind_some, List.getElem?_cons_zero, List.getElem?_cons_succ, asLst_list, asInt_int, asBool_bool, asStr_str, cond_true, cond_false]
      try simp (disch := omega) only [h2, Option.bind_some, List.getElem?_cons_zero, List.getElem?_cons_succ, asLst_list, asInt_int, asBool_bool, asStr_str, cond_true, cond_false]
      try simp (disch := omega) only [h7, Option.bind_some, List.getElem?_cons_zero, List.getElem?_cons_succ, asLst_list, asInt_int, asBool_bool, asStr_str, cond_true, cond_false]
      try simp (disch := omega) only [h9, Option.bind_some, List.getElem?_cons_zero, List.getElem?_cons_succ, asLst_list, asInt_int, asBool_bool, asStr_str, cond_true, cond_false]
      try simp (disch := omega) only [h8, Option.bind_some, List.getElem?_cons_zero, List.getElem?_cons_succ, asLst_list, asInt_int, asBool_bool, asStr_str, cond_true, cond_false]
      try simp (disch := omega) only [h10, Option.bind_some, List.getElem?_cons_zero, List.getElem?_cons_succ, asLst_list, asInt_int, asBool_bool, asStr_str, cond_true, cond_false]
  · refine Ev.of (n1 + n2 + n3 + n4 + n5 + n6 + n7 + n8 + n9 + n10 + 1) fun n hn => ?_
    obtain ⟨n, rfl⟩ : ∃ m, n = m + 1 := ⟨n - 1, by omega⟩
    rw [rat_Rat_Sub_eq, rat_joined_83_eq]
    rw [if_neg e1] at h4
    try simp (disch := omega) only [h2, Option.bind_some, List.getElem?_cons_zero, List.getElem?_cons_succ, asLst_list, asInt_int, asBool_bool, asStr_str, cond_true, cond_false]
    try simp (disch := omega) only [h1, Option.bind_some, List.getElem?_cons_zero, List.getElem?_cons_succ, asLst_list, asInt_int, asBool_bool, asStr_str, cond_true, cond_false]
    try simp (disch := omega) only [h4, beq_self_eq_true, show ((1 : Int) == 0) = false from rfl, Option.bind_some, List.getElem?_cons_zero, List.getElem?_cons_succ, asLst_list, asInt_int, asBool_bool, asStr_str, cond_true, cond_false]
    try simp (disch := omega) only [h3, Option.bind_some, List.getElem?_cons_zero, List.getElem?_cons_succ, asLst_list, asInt_int, asBool_bool, asStr_str, cond_true, cond_false]
    try simp (disch := omega) only [h1, Option.bind_some, List.getElem?_cons_zero, List.getElem?_cons_succ, asLst_list, asInt_int, asBool_bool, asStr_str, cond_true, cond_false]
    try simp (disch := omega) only [h5, show ((1 : Int) == 0) = false from rfl, Option.bind_some, List.getElem?_cons_zero, List.getElem?_cons_succ, asLst_list, asInt_int, asBool_bool, asStr_str, cond_true, cond_false]
    try simp (disch := omega) only [h3, Option.bind_some, List.getElem?_cons_zero, List.getElem?_cons_succ, asLst_list, asInt_int, asBool_bool, asStr_str, cond_true, cond_false]
    try simp (disch := omega) only [h6, Option.bind_some, List.getElem?_cons_zero, List.getElem?_cons_succ, asLst_list, asInt_int, asBool_bool, asStr_str, cond_true, cond_false]
    try simp (disch := omega) only [h2, Option.bind_some, List.getElem?_cons_zero, List.getElem?_cons_succ, asLst_list, asInt_int, asBool_bool, asStr_str, cond_true, cond_false]
    try simp (disch := omega) only [h7, Option.bind_some, List.getElem?_cons_zero, List.getElem?_cons_succ, asLst_list, asInt_int, asBool_bool, asStr_str, cond_true, cond_false]
    try simp (disch := omega) only [h9, Option.bind_some, List.getElem?_cons_zero, List.getElem?_cons_succ, asLst_list, asInt_int, asBool_bool, asStr_str, cond_true, cond_false]
    try simp (disch := omega) only [h8, Option.bind_some, List.getElem?_cons_zero, List.getElem?_cons_succ, asLst_list, asInt_int, asBool_bool, asStr_str, cond_true, cond_false]
    try simp (disch := omega) only [h10, Option.bind_some, List.getElem?_cons_zero, List.getElem?_cons_succ, asLst_list, asInt_int, asBool_bool, asStr_str, cond_true, cond_false]


/-! ### texts -/
theorem rtext_ev {q : Rat} {k d : Nat} (hk : k ≤ 1000000000) (hk1 : 1 ≤ k) (h : Bd k q) (hd : dn d = q.den) : Ev En 48 [zl (q).num, zb (q).num, nL (d), .bool false] [sF (rtext q)] := by
  obtain ⟨n2, h2⟩ := den_ev (l := (dg 4294967296 q.num.natAbs).map d32) (b := decide (q.num < 0)) (by omega : k ≤ 100000000000) (den_bd h hd)
  rw [hd] at h2
  obtain ⟨n3, h3⟩ := one_run
  obtain ⟨n4, h4⟩ := one_cmp (by omega) hk1 h.2 q.den_nz
  obtain ⟨n5, h5⟩ := ntext_ev (by omega) h.1
  have l1 := ztext_len h.1
  have l2 := dtext_len h.2
  by_cases h1 : q.den = 1
  · refine Ev.of (n2 + n3 + n4 + n5) fun n hn => ?_
    rw [rat_Rat_Text_eq]
    rw [if_pos h1] at h4
    simp (disch := omega) only [h2, h3, h4, h5, beq_self_eq_true, Option.bind_some, List.getElem?_cons_zero, List.getElem?_cons_succ, asLst_list, asInt_int, asBool_bool, asStr_str, cond_true, cond_false]
    unfold rtext
    rw [if_pos h1]
  · have hd' : d = q.den := by
      unfold dn at hd
      split at hd <;> omega
    subst hd'
    obtain ⟨n6, h6⟩ := ntext_ev (z := (q.den : Int)) (by omega : k ≤ 10000000000) h.2
    rw [zl_nat, zb_nat] at h6
    refine Ev.of (n2 + n3 + n4 + n5 + n6) fun n hn => ?_
    rw [rat_Rat_Text_eq]
    rw [if_neg h1] at h4
    simp (disch := omega) only [h2, h3, h4, h5, h6, show ((1 : Int) == 0) = false from rfl, Option.bind_some, List.getElem?_cons_zero, List.getElem?_cons_succ, asLst_list, asInt_int, asBool_bool, asStr_str, cond_true, cond_false]
    have ez : ztext (q.den : Int) = dtext q.den := by unfold ztext; rw [if_neg (by omega)]; rfl
    rw [ez, txt_size, decide_eq_false (by omega), cond_false, show ({ data := #[47] } : ByteArray) = txt [47] from rfl, txt_app, txt_size, txt_size, decide_eq_false (by simp; omega), cond_false, txt_app]
    unfold rtext
    rw [if_neg h1]
    simp

theorem rparse_ev {l : List UInt8} {q : Rat} (h : pr l = some q) (hl : l.length ≤ 100000000) : Ev En 42 [sF l] [zl (q).num, zb (q).num, nL (q).den, .bool false, .int .i64 0] := by
  have e := pr_some.1 h
  have hb := pr_bd h
  have hl1 : 1 ≤ l.length := by
    rw [e]; unfold rtext
    have := dtext_pos q.num.natAbs
    split <;> (unfold ztext; split <;> simp <;> omega)
  have hcut := fun n => @cut_run n l (by omega)
  obtain ⟨n3, h3⟩ := one_run
  obtain ⟨n5, h5⟩ := rtext_ev (by omega) (by omega) hb (dn_den q)
  have hne : (!((txt (rtext q)).toList == (txt l).toList)) = false := by rw [txt_beq, e, decide_eq_true rfl]; rfl
  by_cases h1 : q.den = 1
  · have e1 : l = ztext q.num := by rw [e]; unfold rtext; rw [if_pos h1]
    have hno : 47 ∉ l := by rw [e1]; exact ztext_no47 _
    have hnc : l.contains 47 = false := by simpa using hno
    obtain ⟨c1, c2⟩ := cut_no hno
    rw [c1, c2, hnc] at hcut
    obtain ⟨n1, g1⟩ := nparse_ev (pz_some.2 e1) (by omega)
    obtain ⟨n2, g2⟩ := make_ev (a := q.num) (b := 1) (k := 4 * l.length) (by omega) (by omega) (by omega) hb.1 (pow_one_le (by omega))
    have eq1 : Rat.divInt q.num 1 = q := by
      have := Rat.num_divInt_den q
      rwa [h1] at this
    rw [eq1, show zl (1 : Int) = nL 1 from rfl, show zb (1 : Int) = .bool false from rfl] at g2
    refine Ev.of (n1 + n2 + n3 + n5 + 4) fun n hn => ?_
    obtain ⟨n, rfl⟩ : ∃ m, n = m + 4 := ⟨n - 4, by omega⟩
    rw [rat_Parse_eq, hcut]
    try simp (disch := omega) only [g1, Option.bind_some, List.getElem?_cons_zero, List.getElem?_cons_succ, asLst_list, asInt_int, asBool_bool, asStr_str, cond_true, cond_false]
    try simp (disch := omega) only [h3, Option.bind_some, List.getElem?_cons_zero, List.getElem?_cons_succ, asLst_list, asInt_int, asBool_bool, asStr_str, cond_true, cond_false]
    try simp (disch := omega) only [show ((0 : Int) != 0) = false from rfl, Option.bind_some, List.getElem?_cons_zero, List.getElem?_cons_succ, asLst_list, asInt_int, asBool_bool, asStr_str, cond_true, cond_false]
    try simp (disch := omega) only [g2, show ((0 : Int) != 0) = false from rfl, Option.bind_some, List.getElem?_cons_zero, List.getElem?_cons_succ, asLst_list, asInt_int, asBool_bool, asStr_str, cond_true, cond_false]
    try simp (disch := omega) only [h5, hne, Option.bind_some, List.getElem?_cons_zero, List.getElem?_cons_succ, asLst_list, asInt_int, asBool_bool, asStr_str, cond_true, cond_false]
  · have e1 : l = ztext q.num ++ 47 :: dtext q.den := by rw [e]; unfold rtext; rw [if_neg h1]
    have hnc : l.contains 47 = true := by rw [e1]; simp
    obtain ⟨c1, c2⟩ := cut_at (b := dtext q.den) (ztext_no47 q.num)
    rw [← e1] at c1 c2
    have ll : l.length = (ztext q.num).length + 1 + (dtext q.den).length := by rw [e1]; simp; omega
    rw [c1, c2, hnc] at hcut
    obtain ⟨n1, g1⟩ := nparse_ev (l := ztext q.num) (pz_some.2 rfl) (by omega)
    have ez : dtext q.den = ztext (q.den : Int) := by unfold ztext; rw [if_neg (by omega)]; rfl
    obtain ⟨n4, g4⟩ := nparse_ev (l := dtext q.den) (pz_some.2 ez) (by omega)
    obtain ⟨n2, g2⟩ := make_ev (a := q.num) (b := (q.den : Int)) (k := 4 * l.length) (by omega) (by omega) (by have := q.den_nz; omega) hb.1 hb.2
    rw [Rat.num_divInt_den] at g2
    refine Ev.of (n1 + n2 + n3 + n4 + n5 + 4) fun n hn => ?_
    obtain ⟨n, rfl⟩ : ∃ m, n = m + 4 := ⟨n - 4, by omega⟩
    rw [rat_Parse_eq, hcut]
    try simp (disch := omega) only [g1, Option.bind_some, List.getElem?_cons_zero, List.getElem?_cons_succ, asLst_list, asInt_int, asBool_bool, asStr_str, cond_true, cond_false]
    try simp (disch := omega) only [h3, beq_self_eq_true, Option.bind_some, List.getElem?_cons_zero, List.getElem?_cons_succ, asLst_list, asInt_int, asBool_bool, asStr_str, cond_true, cond_false]
    try simp (disch := omega) only [g4, Option.bind_some, List.getElem?_cons_zero, List.getElem?_cons_succ, asLst_list, asInt_int, asBool_bool, asStr_str, cond_true, cond_false]
    try simp (disch := omega) only [show ((0 : Int) != 0) = false from rfl, Option.bind_some, List.getElem?_cons_zero, List.getElem?_cons_succ, asLst_list, asInt_int, asBool_bool, asStr_str, cond_true, cond_false]
    try simp (disch := omega) only [g2, Option.bind_some, List.getElem?_cons_zero, List.getElem?_cons_succ, asLst_list, asInt_int, asBool_bool, asStr_str, cond_true, cond_false]
    try simp (disch := omega) only [show ((0 : Int) != 0) = false from rfl, Option.bind_some, List.getElem?_cons_zero, List.getElem?_cons_succ, asLst_list, asInt_int, asBool_bool, asStr_str, cond_true, cond_false]
    try simp (disch := omega) only [h5, hne, Option.bind_some, List.getElem?_cons_zero, List.getElem?_cons_succ, asLst_list, asInt_int, asBool_bool, asStr_str, cond_true, cond_false]

theorem rparse_bad {l : List UInt8} (h : pr l = none) (hl : l.length ≤ 100000000) : Ev En 42 [sF l] [.list 1 [], .bool false, .list 1 [], .bool false, .int .i64 10] := by
  have hno := pr_none.1 h
  have hcut := fun n => @cut_run n l (by omega)
  obtain ⟨n3, h3⟩ := one_run
  obtain ⟨la, lb⟩ := cut_len l
  have hne : ∀ q : Rat, (!((txt (rtext q)).toList == (txt l).toList)) = true := fun q => by rw [txt_beq, decide_eq_false (fun e => hno q e.symm)]; rfl
  cases ha : pz (cutA l) with
  | none =>
    obtain ⟨n1, g1⟩ := nparse_bad ha (by omega)
    refine Ev.of (n1 + n3 + 4) fun n hn => ?_
    obtain ⟨n, rfl⟩ : ∃ m, n = m + 4 := ⟨n - 4, by omega⟩
    rw [rat_Parse_eq, hcut]
    try simp (disch := omega) only [g1, Option.bind_some, List.getElem?_cons_zero, List.getElem?_cons_succ, asLst_list, asInt_int, asBool_bool, asStr_str, cond_true, cond_false]
    try simp (disch := omega) only [h3, Option.bind_some, List.getElem?_cons_zero, List.getElem?_cons_succ, asLst_list, asInt_int, asBool_bool, asStr_str, cond_true, cond_false]
    try simp (disch := omega) only [show ((10 : Int) != 0) = true from rfl, show ((10 : Int) == 0) = false from rfl, Option.bind_some, List.getElem?_cons_zero, List.getElem?_cons_succ, asLst_list, asInt_int, asBool_bool, asStr_str, cond_true, cond_false]
    cases l.contains 47 <;> rfl
  | some a =>
    obtain ⟨n1, g1⟩ := nparse_ev ha (by omega)
    have ba : a.natAbs < 2 ^ (4 * l.length + 1) := Nat.lt_of_lt_of_le (pz_lt ha) (Nat.pow_le_pow_right (by omega) (by omega))
    by_cases h47 : 47 ∈ l
    · have hnc : l.contains 47 = true := by simpa using h47
      rw [hnc] at hcut
      cases hb : pz (cutB l) with
      | none =>
        obtain ⟨n2, g2⟩ := nparse_bad hb (by omega)
        refine Ev.of (n1 + n2 + n3 + 4) fun n hn => ?_
        obtain ⟨n, rfl⟩ : ∃ m, n = m + 4 := ⟨n - 4, by omega⟩
        rw [rat_Parse_eq, hcut]
        try simp (disch := omega) only [g1, Option.bind_some, List.getElem?_cons_zero, List.getElem?_cons_succ, asLst_list, asInt_int, asBool_bool, asStr_str, cond_true, cond_false]
        try simp (disch := omega) only [h3, beq_self_eq_true, Option.bind_some, List.getElem?_cons_zero, List.getElem?_cons_succ, asLst_list, asInt_int, asBool_bool, asStr_str, cond_true, cond_false]
        try simp (disch := omega) only [g2, show ((10 : Int) != 0) = true from rfl, Option.bind_some, List.getElem?_cons_zero, List.getElem?_cons_succ, asLst_list, asInt_int, asBool_bool, asStr_str, cond_true, cond_false]
      | some b =>
        obtain ⟨n2, g2⟩ := nparse_ev hb (by omega)
        have bb : b.natAbs < 2 ^ (4 * l.length + 1) := Nat.lt_of_lt_of_le (pz_lt hb) (Nat.pow_le_pow_right (by omega) (by omega))
        by_cases h0 : b = 0
        · subst h0
          obtain ⟨n4, g4⟩ := make_zero (a := a) (l := (dg 4294967296 a.natAbs).map d32) (b := decide (a < 0))
          refine Ev.of (n1 + n2 + n3 + n4 + 4) fun n hn => ?_
          obtain ⟨n, rfl⟩ : ∃ m, n = m + 4 := ⟨n - 4, by omega⟩
          rw [rat_Parse_eq, hcut]
          rw [show zl (0 : Int) = nL 0 from rfl, show zb (0 : Int) = .bool false from rfl] at g2
          try simp (disch := omega) only [g1, Option.bind_some, List.getElem?_cons_zero, List.getElem?_cons_succ, asLst_list, asInt_int, asBool_bool, asStr_str, cond_true, cond_false]
          try simp (disch := omega) only [h3, beq_self_eq_true, Option.bind_some, List.getElem?_cons_zero, List.getElem?_cons_succ, asLst_list, asInt_int, asBool_bool, asStr_str, cond_true, cond_false]
          try simp (disch := omega) only [g2, Option.bind_some, List.getElem?_cons_zero, List.getElem?_cons_succ, asLst_list, asInt_int, asBool_bool, asStr_str, cond_true, cond_false]
          try simp (disch := omega) only [show ((0 : Int) != 0) = false from rfl, Option.bind_some, List.getElem?_cons_zero, List.getElem?_cons_succ, asLst_list, asInt_int, asBool_bool, asStr_str, cond_true, cond_false]
          try simp (disch := omega) only [g4, show ((12 : Int) != 0) = true from rfl, Option.bind_some, List.getElem?_cons_zero, List.getElem?_cons_succ, asLst_list, asInt_int, asBool_bool, asStr_str, cond_true, cond_false]
        · obtain ⟨n4, g4⟩ := make_ev (by omega) (by omega) h0 ba bb
          obtain ⟨m1, m2⟩ := divInt_le a b h0
          have hbd : Bd (4 * l.length + 1) (Rat.divInt a b) := ⟨by omega, by omega⟩
          obtain ⟨n5, g5⟩ := rtext_ev (by omega) (by omega) hbd (dn_den _)
          refine Ev.of (n1 + n2 + n3 + n4 + n5 + 4) fun n hn => ?_
          obtain ⟨n, rfl⟩ : ∃ m, n = m + 4 := ⟨n - 4, by omega⟩
          rw [rat_Parse_eq, hcut]
          try simp (disch := omega) only [g1, Option.bind_some, List.getElem?_cons_zero, List.getElem?_cons_succ, asLst_list, asInt_int, asBool_bool, asStr_str, cond_true, cond_false]
          try simp (disch := omega) only [h3, beq_self_eq_true, Option.bind_some, List.getElem?_cons_zero, List.getElem?_cons_succ, asLst_list, asInt_int, asBool_bool, asStr_str, cond_true, cond_false]
          try simp (disch := omega) only [g2, Option.bind_some, List.getElem?_cons_zero, List.getElem?_cons_succ, asLst_list, asInt_int, asBool_bool, asStr_str, cond_true, cond_false]
          try simp (disch := omega) only [show ((0 : Int) != 0) = false from rfl, Option.bind_some, List.getElem?_cons_zero, List.getElem?_cons_succ, asLst_list, asInt_int, asBool_bool, asStr_str, cond_true, cond_false]
          try simp (disch := omega) only [g4, Option.bind_some, List.getElem?_cons_zero, List.getElem?_cons_succ, asLst_list, asInt_int, asBool_bool, asStr_str, cond_true, cond_false]
          try simp (disch := omega) only [show ((0 : Int) != 0) = false from rfl, Option.bind_some, List.getElem?_cons_zero, List.getElem?_cons_succ, asLst_list, asInt_int, asBool_bool, asStr_str, cond_true, cond_false]
          try simp (disch := omega) only [g5, hne, Option.bind_some, List.getElem?_cons_zero, List.getElem?_cons_succ, asLst_list, asInt_int, asBool_bool, asStr_str, cond_true, cond_false]
    · have hnc : l.contains 47 = false := by simpa using h47
      rw [hnc] at hcut
      obtain ⟨c1, c2⟩ := cut_no h47
      rw [c1] at ha
      exfalso
      refine hno (a : Rat) ?_
      unfold rtext
      rw [if_pos (show ((a : Rat)).den = 1 from rfl)]
      exact pz_some.1 ha

end Rf
