/- BookLocks: what is computed of its leaves is true. -/
import Derived.Test.YtecinekkgnhhoaaBook
set_option linter.unusedSimpArgs false
set_option linter.unusedVariables false
set_option maxHeartbeats 2000000
namespace Rf
open Go

def W : ByteArray := { data := #[119, 104, 111] }
def O : ByteArray := { data := #[111, 116, 104, 101, 114] }
def lockA (c : Int) : Ask := ⟨1, c, 0, { data := #[] }, 0, 0, 0, false, 0, 0, { data := #[] }, 0, 0, false, 0, [], 0, 0⟩
def stepA (buy : Bool) (q p : Int) : Ask := ⟨2, 0, 0, { data := #[] }, 1, 0, 0, buy, q, p, { data := #[] }, 0, 0, false, 0, [], 0, 0⟩

/-- the book once the other one's lock is in -/
def B1 : Bk := Bk.empty.setAcc O ⟨1000000, 0, 1, 0, 0⟩
theorem B1_ok : B1.Ok := empty_ok.setAcc _
theorem WO : ¬ W = O := by decide

theorem run1 (n : Nat) : evF En (n + 3) 20 (Bk.empty.L ++ .str O :: (lockA 1000000).L) = some (B1.L ++ [.int .i64 0]) :=
  add_lock (n := n + 1) empty_ok rfl (may_lock (n := n) empty_ok rfl)

/-- .. and who's -/
def B2 (x : Int) : Bk := if x > 0 then B1.setAcc W ⟨x, 0, 1, 0, 0⟩ else B1
theorem B2_ok (x : Int) : (B2 x).Ok := by unfold B2; split; exact B1_ok.setAcc _; exact B1_ok
theorem B2_acc {x : Int} (h0 : 0 ≤ x) : (B2 x).acc W = ⟨x, 0, if x > 0 then 1 else 0, 0, 0⟩ := by
  unfold B2
  split
  · rw [acc_setAcc, if_pos rfl]
  · have : x = 0 := by omega
    subst this
    unfold B1
    rw [acc_setAcc, if_neg WO]
    rfl
theorem B2_O (x : Int) : ((B2 x).acc O).ow = 0 := by
  have h : (B1.acc O).ow = 0 := by unfold B1; rw [acc_setAcc, if_pos rfl]
  unfold B2
  split
  · rw [acc_setAcc, if_neg (fun h => WO h.symm)]; exact h
  · exact h
theorem B2_e (x : Int) : (B2 x).e0 = [] ∧ (B2 x).e2 = [] := by unfold B2; split <;> exact ⟨rfl, rfl⟩

theorem run2 (n : Nat) {x : Int} (h0 : 0 ≤ x) (h1 : x ≤ 65535) : evF En (n + 3) 20 (B1.L ++ .str W :: (lockA x).L) = some ((B2 x).L ++ [.int .i64 (if x > 0 then 0 else 1)]) := by
  have hm := may_lock (n := n) (w := W) (a := lockA x) B1_ok rfl
  have ha : B1.acc W = ⟨0, 0, 0, 0, 0⟩ := by unfold B1; rw [acc_setAcc, if_neg WO]; rfl
  rw [ha] at hm
  rw [if_neg (by decide)] at hm
  by_cases hx : x > 0
  · rw [if_neg (by simp only [lockA]; omega)] at hm
    have := add_lock (n := n + 1) B1_ok rfl hm
    rw [ha] at this
    rw [if_pos hx, this]
    unfold B2
    rw [if_pos hx]
    simp only [lockA]
    rw [wrap64_id (by omega) (by omega), wrap64_id (by omega) (by omega)]
    simp
  · rw [if_pos (by simp only [lockA]; omega)] at hm
    rw [if_neg hx, add_no (by decide) hm]
    unfold B2
    rw [if_neg hx]

/-- .. and the step -/
theorem run3 (n : Nat) {x q p : Int} {buy : Bool} (h0 : 0 ≤ x) (h1 : x ≤ 65535) (hq : 0 ≤ q ∧ q ≤ 255) (hp : 0 ≤ p ∧ p ≤ 255) :
    ∃ B3 : Bk, evF En (n + 3) 20 ((B2 x).L ++ .str W :: (stepA buy q (if buy then p else -p)).L) = some (B3.L ++ [.int .i64 (if q * p ≤ x then 0 else 221)]) ∧ B3.Ok ∧ (B3.acc W).ow = (if q * p ≤ x then q * p else 0) ∧ (B3.acc O).ow = 0 ∧
      B3.e0.length ≤ 1 ∧ (B3.e0.map entVal).all stepOk = true := by
  have hqp : 0 ≤ q * p ∧ q * p ≤ 65025 := ⟨Int.mul_nonneg hq.1 hp.1, by
    have := Int.mul_le_mul hq.2 hp.2 hp.1 (by omega : (0 : Int) ≤ 255)
    omega⟩
  have ho : (stepA buy q (if buy then p else -p)).owes = q * p := by
    unfold Ask.owes stepA
    cases buy
    · simp only [Bool.false_eq_true, if_false]
      rw [wrap64_id (x := 0 - -p) (by omega) (by omega), show 0 - -p = p by omega, if_neg (by omega), Int.mul_comm, wrap64_id (by omega) (by omega)]
    · simp only [if_true]
      rw [if_neg (by omega), Int.mul_comm, wrap64_id (by omega) (by omega)]
  have hs1 : (stepA buy q (if buy then p else -p)).s1 = 1 := rfl
  have hk : (stepA buy q (if buy then p else -p)).kind = 2 := rfl
  generalize stepA buy q (if buy then p else -p) = A at ho hs1 hk
  have hm := may_step (n := n) (w := W) (a := A) (B2_ok x) hk
  have hu : (B2 x).used W A.s1 = 0 := by unfold Bk.used; rw [(B2_e x).2]; rfl
  rw [B2_acc h0, hu, ho] at hm
  have e1 : ¬ ((if x > 0 then (1 : Int) else 0) ≥ 24) := by split <;> omega
  have e2 : ¬ ((0 : Int) > 0) := by omega
  have e3 : ¬ ((0 : Int) ≥ 8) := by omega
  have e4 : IntKind.wrap .i64 (0 + q * p) = q * p := by rw [wrap64_id (by omega) (by omega)]; omega
  simp only [if_neg e1, if_neg e2, if_neg e3, e4] at hm
  by_cases hc : q * p ≤ x
  · rw [if_neg (by omega)] at hm
    have hr := add_step (n := n + 1) (B2_ok x) hk hm
    refine ⟨(B2 x).addStep W A, by rw [if_pos hc]; exact hr, (B2_ok x).addStep, ?_, ?_, ?_, ?_⟩
    · unfold Bk.addStep
      rw [acc_setAcc, if_pos rfl, if_pos hc, B2_acc h0, ho, e4]
    · unfold Bk.addStep
      rw [acc_setAcc, if_neg (fun h => WO h.symm)]
      exact B2_O x
    · unfold Bk.addStep Bk.setAcc
      simp only
      rw [(B2_e x).1]
      exact Nat.le_refl 1
    · unfold Bk.addStep Bk.setAcc
      simp only
      rw [(B2_e x).1]
      rfl
  · rw [if_pos (by omega)] at hm
    have hr := add_no (n := n + 2) (by decide) hm
    refine ⟨B2 x, by rw [if_neg hc]; exact hr, B2_ok x, ?_, B2_O x, ?_, ?_⟩
    · rw [B2_acc h0, if_neg hc]
    · rw [(B2_e x).1]; exact Nat.zero_le _
    · rw [(B2_e x).1]; rfl

theorem locks_pure (L : List FV) (h : All2 Fits [.int .u16, .int .u8, .int .u8, .bool] L) : ∃ n, evF En n 6 L = some [.bool true] := by
  obtain ⟨x1, r1, rfl, h1, h⟩ := h.cons_inv
  obtain ⟨x2, r2, rfl, h2, h⟩ := h.cons_inv
  obtain ⟨x3, r3, rfl, h3, h⟩ := h.cons_inv
  obtain ⟨x4, r4, rfl, h4, h⟩ := h.cons_inv
  obtain rfl := h.nil_inv
  obtain ⟨x, rfl, hx⟩ := h1.int_inv
  obtain ⟨q, rfl, hq⟩ := h2.int_inv
  obtain ⟨p, rfl, hp⟩ := h3.int_inv
  obtain ⟨buy, rfl⟩ := h4.bool_inv
  have u1 : IntKind.u8.min = 0 := by decide
  have u2 : IntKind.u8.max = 255 := by decide
  have u3 : IntKind.u16.min = 0 := by decide
  have u4 : IntKind.u16.max = 65535 := by decide
  rw [u3, u4] at hx
  rw [u1, u2] at hq hp
  have hqp : 0 ≤ q * p ∧ q * p ≤ 65025 := ⟨Int.mul_nonneg hq.1 hp.1, by
    have := Int.mul_le_mul hq.2 hp.2 hp.1 (by omega : (0 : Int) ≤ 255)
    omega⟩
  obtain ⟨B3, hr3, ok3, how, hoo, hl3, ht3⟩ := run3 1 (x := x) (q := q) (p := p) (buy := buy) hx.1 hx.2 hq hp
  have hr1 := run1 1
  have hr2 := run2 1 (x := x) hx.1 hx.2
  have hl := locked_run (n := 3) (w := W) (B2_ok x)
  have hw := owes_run (n := 3) (w := W) ok3
  have hO := owes_run (n := 3) (w := O) ok3
  have hs := steps_run (n := 3) hl3 ht3
  have hn := new_run (n := 3)
  rw [B2_acc hx.1] at hl
  simp only at hl
  rw [how] at hw
  rw [hoo] at hO
  have hlen : decide (((B3.e0.map entVal).length : Int) ≤ 1) = true := decide_eq_true (by simp; omega)
  generalize he0 : B3.e0.map entVal = ev at hs hlen
  have key : (if x > 0 then (0 : Int) else 1) = 0 ↔ x > 0 := by split <;> simp_all
  rw [show 1 + 3 = 4 from rfl] at hr1 hr2 hr3
  rw [show 3 + 1 = 4 from rfl] at hl hw hO hs hn
  refine ⟨5, ?_⟩
  simp only [Bk.L, W, O, lockA, stepA, Ask.L, List.cons_append, List.nil_append] at hr1 hr2 hr3 hl hw hO hs hn
  rw [noonbelllaw10_BookLocks_eq, hn, Option.bind_some]
  simp only [List.getElem?_cons_zero, List.getElem?_cons_succ, wrap64_id (x := x) (by omega) (by omega), wrap64_id (x := q) (by omega) (by omega), wrap64_id (x := p) (by omega) (by omega), wrap64_id (x := 0 - p) (by omega) (by omega), wrap64_id (x := -p) (by omega) (by omega), wrap64_id (x := q * p) (by omega) (by omega), show (0 : Int) - p = -p by omega]
  repeat (first | rw [Option.bind_some] | rw [asLst_list] | rw [asInt_int])
  have k1 : (!(((if x > 0 then (0 : Int) else 1) == 0) == decide (x > 0))) = false := by
    by_cases hx0 : x > 0
    · rw [if_pos hx0, decide_eq_true hx0]; rfl
    · rw [if_neg hx0, decide_eq_false hx0]; rfl
  have k2 : (!(((if q * p ≤ x then (0 : Int) else 221) == 0) == decide (q * p ≤ x))) = false := by
    by_cases hx0 : q * p ≤ x
    · rw [if_pos hx0, decide_eq_true hx0]; rfl
    · rw [if_neg hx0, decide_eq_false hx0]; rfl
  have k3 : (((0 : Int) == q * p) == (q * p == 0)) = true := by
    rw [show ((0 : Int) == q * p) = (q * p == 0) from by rw [Bool.eq_iff_iff]; simp only [beq_iff_eq]; exact eq_comm]
    exact beq_self_eq_true _
  cases buy with
  | false =>
    simp only [Bool.false_eq_true, if_false] at hr3
    rw [show (!false) = true from rfl, cond_true]
    rw [hr1, Option.bind_some]
    simp only [List.getElem?_cons_zero, List.getElem?_cons_succ]
    repeat (first | rw [Option.bind_some] | rw [asLst_list] | rw [asInt_int])
    rw [show ((0 : Int) != 0) = false from rfl, cond_false, hr2, Option.bind_some]
    simp only [List.getElem?_cons_zero, List.getElem?_cons_succ]
    repeat (first | rw [Option.bind_some] | rw [asLst_list] | rw [asInt_int])
    rw [k1, cond_false, hl, Option.bind_some]
    simp only [List.getElem?_cons_zero, List.getElem?_cons_succ]
    repeat (first | rw [Option.bind_some] | rw [asLst_list] | rw [asInt_int])
    rw [bne_self_eq_false, cond_false, hr3, Option.bind_some]
    simp only [List.getElem?_cons_zero, List.getElem?_cons_succ]
    repeat (first | rw [Option.bind_some] | rw [asLst_list] | rw [asInt_int])
    rw [k2, cond_false]
    by_cases hc : q * p ≤ x
    · simp only [if_pos hc] at hw ⊢
      rw [show ((0 : Int) != 0) = false from rfl, cond_false, hw, Option.bind_some]
      simp only [List.getElem?_cons_zero, List.getElem?_cons_succ]
      repeat (first | rw [Option.bind_some] | rw [asLst_list] | rw [asInt_int])
      rw [show ((0 : Int) == 0) = true from rfl, cond_true, beq_self_eq_true, beq_self_eq_true, cond_true, hs, Option.bind_some]
      simp only [List.getElem?_cons_zero, List.getElem?_cons_succ]
      repeat (first | rw [Option.bind_some] | rw [asLst_list] | rw [asInt_int])
      rw [hlen, cond_true, hO, Option.bind_some]
      simp only [List.getElem?_cons_zero, List.getElem?_cons_succ]
      repeat (first | rw [Option.bind_some] | rw [asLst_list] | rw [asInt_int])
      rfl
    · simp only [if_neg hc] at hw ⊢
      rw [show ((221 : Int) != 0) = true from rfl, cond_true, show ((221 : Int) != 221) = false from rfl, cond_false, hw, Option.bind_some]
      simp only [List.getElem?_cons_zero, List.getElem?_cons_succ]
      repeat (first | rw [Option.bind_some] | rw [asLst_list] | rw [asInt_int])
      rw [show ((221 : Int) == 0) = false from rfl, cond_false, k3, cond_true, hs, Option.bind_some]
      simp only [List.getElem?_cons_zero, List.getElem?_cons_succ]
      repeat (first | rw [Option.bind_some] | rw [asLst_list] | rw [asInt_int])
      rw [hlen, cond_true, hO, Option.bind_some]
      simp only [List.getElem?_cons_zero, List.getElem?_cons_succ]
      repeat (first | rw [Option.bind_some] | rw [asLst_list] | rw [asInt_int])
      rfl
  | true =>
    simp only [if_true] at hr3
    rw [show (!true) = false from rfl, cond_false]
    rw [hr1, Option.bind_some]
    simp only [List.getElem?_cons_zero, List.getElem?_cons_succ]
    repeat (first | rw [Option.bind_some] | rw [asLst_list] | rw [asInt_int])
    rw [show ((0 : Int) != 0) = false from rfl, cond_false, hr2, Option.bind_some]
    simp only [List.getElem?_cons_zero, List.getElem?_cons_succ]
    repeat (first | rw [Option.bind_some] | rw [asLst_list] | rw [asInt_int])
    rw [k1, cond_false, hl, Option.bind_some]
    simp only [List.getElem?_cons_zero, List.getElem?_cons_succ]
    repeat (first | rw [Option.bind_some] | rw [asLst_list] | rw [asInt_int])
    rw [bne_self_eq_false, cond_false, hr3, Option.bind_some]
    simp only [List.getElem?_cons_zero, List.getElem?_cons_succ]
    repeat (first | rw [Option.bind_some] | rw [asLst_list] | rw [asInt_int])
    rw [k2, cond_false]
    by_cases hc : q * p ≤ x
    · simp only [if_pos hc] at hw ⊢
      rw [show ((0 : Int) != 0) = false from rfl, cond_false, hw, Option.bind_some]
      simp only [List.getElem?_cons_zero, List.getElem?_cons_succ]
      repeat (first | rw [Option.bind_some] | rw [asLst_list] | rw [asInt_int])
      rw [show ((0 : Int) == 0) = true from rfl, cond_true, beq_self_eq_true, beq_self_eq_true, cond_true, hs, Option.bind_some]
      simp only [List.getElem?_cons_zero, List.getElem?_cons_succ]
      repeat (first | rw [Option.bind_some] | rw [asLst_list] | rw [asInt_int])
      rw [hlen, cond_true, hO, Option.bind_some]
      simp only [List.getElem?_cons_zero, List.getElem?_cons_succ]
      repeat (first | rw [Option.bind_some] | rw [asLst_list] | rw [asInt_int])
      rfl
    · simp only [if_neg hc] at hw ⊢
      rw [show ((221 : Int) != 0) = true from rfl, cond_true, show ((221 : Int) != 221) = false from rfl, cond_false, hw, Option.bind_some]
      simp only [List.getElem?_cons_zero, List.getElem?_cons_succ]
      repeat (first | rw [Option.bind_some] | rw [asLst_list] | rw [asInt_int])
      rw [show ((221 : Int) == 0) = false from rfl, cond_false, k3, cond_true, hs, Option.bind_some]
      simp only [List.getElem?_cons_zero, List.getElem?_cons_succ]
      repeat (first | rw [Option.bind_some] | rw [asLst_list] | rw [asInt_int])
      rw [hlen, cond_true, hO, Option.bind_some]
      simp only [List.getElem?_cons_zero, List.getElem?_cons_succ]
      repeat (first | rw [Option.bind_some] | rw [asLst_list] | rw [asInt_int])
      rfl

end Rf
