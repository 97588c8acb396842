/- Words of 32 and 64 bits as numbers; what is eventually so of a function's runs. -/
import Derived.Test.YtebaohjeodeaoaaGreatDoorRf29
import Derived.Test.YtebaohjeodeaoaaGreatDoorDig
set_option linter.unusedSimpArgs false
set_option linter.unusedVariables false
namespace Rf
open Go

/-! ### whatever the fuel, from some on -/
def Ev (E : Env) (f : FuncId) (L R : List FV) : Prop := ∃ n0, ∀ n, n0 ≤ n → evF E n f L = some R

theorem Ev.of {E : Env} {f : FuncId} {L R : List FV} (n0 : Nat) (h : ∀ n, n0 ≤ n → evF E (n + 1) f L = some R) : Ev E f L R :=
  ⟨n0 + 1, fun n hn => by
    obtain ⟨k, rfl⟩ : ∃ k, n = k + 1 := ⟨n - 1, by omega⟩
    exact h k (by omega)⟩

theorem Ev.run {E : Env} {f : FuncId} {L R : List FV} (h : Ev E f L R) : ∃ n, evF E n f L = some R := let ⟨n, hn⟩ := h; ⟨n, hn n (Nat.le_refl _)⟩

/-! ### words -/
theorem wrap_u32 (x : Nat) : IntKind.wrap .u32 (x : Int) = ((x % 4294967296 : Nat) : Int) := by
  unfold IntKind.wrap
  simp [IntKind.bits, IntKind.signed]
theorem wrap_u64 (x : Nat) : IntKind.wrap .u64 (x : Int) = ((x % 18446744073709551616 : Nat) : Int) := by
  unfold IntKind.wrap
  simp [IntKind.bits, IntKind.signed]
theorem wrap_u32_id {x : Nat} (h : x < 4294967296) : IntKind.wrap .u32 (x : Int) = (x : Int) := by rw [wrap_u32, Nat.mod_eq_of_lt h]
theorem wrap_u64_id {x : Nat} (h : x < 18446744073709551616) : IntKind.wrap .u64 (x : Int) = (x : Int) := by rw [wrap_u64, Nat.mod_eq_of_lt h]
theorem wrap_i64_nat {x : Nat} (h : x < 9223372036854775808) : IntKind.wrap .i64 (x : Int) = (x : Int) := wrap64_id (by omega) (by omega)

theorem cast_add (x y : Nat) : (x : Int) + (y : Int) = ((x + y : Nat) : Int) := rfl
theorem cast_mul (x y : Nat) : (x : Int) * (y : Int) = ((x * y : Nat) : Int) := rfl

theorem add_u64 {x y : Nat} (h : x + y < 18446744073709551616) : IntKind.wrap .u64 ((x : Int) + (y : Int)) = ((x + y : Nat) : Int) := by rw [cast_add, wrap_u64_id h]
theorem mul_u64 {x y : Nat} (h : x * y < 18446744073709551616) : IntKind.wrap .u64 ((x : Int) * (y : Int)) = ((x * y : Nat) : Int) := by rw [cast_mul, wrap_u64_id h]
theorem add_i64 {x y : Nat} (h : x + y < 9223372036854775808) : IntKind.wrap .i64 ((x : Int) + (y : Int)) = ((x + y : Nat) : Int) := by rw [cast_add, wrap_i64_nat h]
theorem mul_i64 {x y : Nat} (h : x * y < 9223372036854775808) : IntKind.wrap .i64 ((x : Int) * (y : Int)) = ((x * y : Nat) : Int) := by rw [cast_mul, wrap_i64_nat h]
theorem sub_i64 {x y : Nat} (hxy : y ≤ x) (h : x < 9223372036854775808) : IntKind.wrap .i64 ((x : Int) - (y : Int)) = ((x - y : Nat) : Int) := by
  rw [wrap64_id (by omega) (by omega)]; omega

theorem shr_nat (k : IntKind) (x s : Nat) (hs : s ≤ k.bits) : shI false k (x : Int) (s : Int) = ((x / 2 ^ s : Nat) : Int) := by
  unfold shI
  rw [cond_false, Int.toNat_natCast, Nat.min_eq_left hs, Int.fdiv_eq_ediv_of_nonneg _ (by exact Int.le_of_lt (Int.pow_pos (by omega)))]
  have : (2 : Int) ^ s = ((2 ^ s : Nat) : Int) := by simp
  rw [this]
  rfl
theorem shl_nat (k : IntKind) (x s : Nat) (hs : s ≤ k.bits) : shI true k (x : Int) (s : Int) = k.wrap ((x * 2 ^ s : Nat) : Int) := by
  unfold shI
  rw [cond_true, Int.toNat_natCast, Nat.min_eq_left hs]
  congr 1

theorem bv_nat {w x : Nat} (h : x < 2 ^ w) : (BitVec.ofInt w (x : Int)).toNat = x := by
  rw [BitVec.toNat_ofInt]
  have : ((x : Int) % (2 ^ w : Nat)).toNat = x := by
    rw [Int.emod_eq_of_lt (by omega) (by exact_mod_cast h), Int.toNat_natCast]
  simpa using this

theorem or_u64 {x y : Nat} (hx : x < 18446744073709551616) (hy : y < 18446744073709551616) : bitI .or .u64 (x : Int) (y : Int) = ((x ||| y : Nat) : Int) := by
  have h : x ||| y < 2 ^ 64 := Nat.or_lt_two_pow hx hy
  show IntKind.wrap .u64 (((BitVec.ofInt 64 (x : Int) ||| BitVec.ofInt 64 (y : Int)).toNat : Nat) : Int) = _
  rw [BitVec.toNat_or, bv_nat hx, bv_nat hy, wrap_u64_id h]
theorem or_u32 {x y : Nat} (hx : x < 4294967296) (hy : y < 4294967296) : bitI .or .u32 (x : Int) (y : Int) = ((x ||| y : Nat) : Int) := by
  have h : x ||| y < 2 ^ 32 := Nat.or_lt_two_pow hx hy
  show IntKind.wrap .u32 (((BitVec.ofInt 32 (x : Int) ||| BitVec.ofInt 32 (y : Int)).toNat : Nat) : Int) = _
  rw [BitVec.toNat_or, bv_nat hx, bv_nat hy, wrap_u32_id h]

/-- a high and a low half -/
theorem or_halves {x y s : Nat} (hy : y < 2 ^ s) : x * 2 ^ s ||| y = x * 2 ^ s + y := by
  rw [Nat.mul_comm, Nat.two_pow_add_eq_or_of_lt hy]

/-! ### digits as they lie -/
abbrev d32 (d : Nat) : FV := .int .u32 (d : Int)
abbrev d64 (d : Nat) : FV := .int .i64 (d : Int)
abbrev L32 (l : List Nat) : FV := .list 1 (l.map d32)
abbrev L64 (l : List Nat) : FV := .list 1 (l.map d64)

theorem d32_at {l : List Nat} {i : Nat} (h : i < l.length) : at' (l.map d32) i 0 = some (.int .u32 (l[i] : Int)) := by rw [at_map, List.getElem?_eq_getElem h]; rfl
theorem d64_at {l : List Nat} {i : Nat} (h : i < l.length) : at' (l.map d64) i 0 = some (.int .i64 (l[i] : Int)) := by rw [at_map, List.getElem?_eq_getElem h]; rfl

/-! ### what is borrowed -/
theorem bit_and (A B : BitVec 32) : bitI .and .u32 (A.toNat : Int) (B.toNat : Int) = ((A &&& B).toNat : Int) := by
  show IntKind.wrap .u32 (((BitVec.ofInt 32 (A.toNat : Int) &&& BitVec.ofInt 32 (B.toNat : Int)).toNat : Nat) : Int) = _
  rw [BitVec.ofInt_natCast, BitVec.ofInt_natCast, BitVec.ofNat_toNat, BitVec.ofNat_toNat, BitVec.setWidth_eq, BitVec.setWidth_eq, wrap_u32_id (A &&& B).isLt]
theorem bit_or (A B : BitVec 32) : bitI .or .u32 (A.toNat : Int) (B.toNat : Int) = ((A ||| B).toNat : Int) := by
  show IntKind.wrap .u32 (((BitVec.ofInt 32 (A.toNat : Int) ||| BitVec.ofInt 32 (B.toNat : Int)).toNat : Nat) : Int) = _
  rw [BitVec.ofInt_natCast, BitVec.ofInt_natCast, BitVec.ofNat_toNat, BitVec.ofNat_toNat, BitVec.setWidth_eq, BitVec.setWidth_eq, wrap_u32_id (A ||| B).isLt]
theorem bit_xor (A B : BitVec 32) : bitI .xor .u32 (A.toNat : Int) (B.toNat : Int) = ((A ^^^ B).toNat : Int) := by
  show IntKind.wrap .u32 (((BitVec.ofInt 32 (A.toNat : Int) ^^^ BitVec.ofInt 32 (B.toNat : Int)).toNat : Nat) : Int) = _
  rw [BitVec.ofInt_natCast, BitVec.ofInt_natCast, BitVec.ofNat_toNat, BitVec.ofNat_toNat, BitVec.setWidth_eq, BitVec.setWidth_eq, wrap_u32_id (A ^^^ B).isLt]
theorem bit_not (A : BitVec 32) : bitI .xor .u32 (4294967295 : Int) (A.toNat : Int) = ((~~~A).toNat : Int) := by
  have h := bit_xor (BitVec.allOnes 32) A
  rw [show ((BitVec.allOnes 32).toNat : Int) = 4294967295 from rfl, BitVec.allOnes_xor] at h
  exact h

theorem top_bit (A : BitVec 32) : A.toNat / 2 ^ 31 = if A.msb then 1 else 0 := by
  have h := A.isLt
  rw [BitVec.msb_eq_decide]
  simp only [Nat.reduceSub, decide_eq_true_eq]
  split <;> omega

/-- Sub32's second result -/
theorem borrow_bit {x y br : Nat} (hx : x < 4294967296) (hy : y < 4294967296) (hb : br ≤ 1) :
    shI false .u32 (bitI .or .u32 (bitI .and .u32 (bitI .xor .u32 4294967295 (x : Int)) (y : Int)) (bitI .and .u32 (bitI .xor .u32 4294967295 (bitI .xor .u32 (x : Int) (y : Int))) (((4294967296 + x - y - br) % 4294967296 : Nat) : Int))) 31 =
      ((if x < y + br then 1 else 0 : Nat) : Int) := by
  obtain ⟨X, hX⟩ : ∃ X : BitVec 32, X.toNat = x := ⟨BitVec.ofNat 32 x, by simp; omega⟩
  obtain ⟨Y, hY⟩ : ∃ X : BitVec 32, X.toNat = y := ⟨BitVec.ofNat 32 y, by simp; omega⟩
  obtain ⟨D, hD⟩ : ∃ X : BitVec 32, X.toNat = (4294967296 + x - y - br) % 4294967296 := ⟨BitVec.ofNat 32 (4294967296 + x - y - br), by simp⟩
  rw [← hX, ← hY] at *
  rw [← hD, bit_not, bit_and, bit_xor, bit_not, bit_and, bit_or]
  have := shr_nat .u32 ((~~~X &&& Y ||| ~~~(X ^^^ Y) &&& D).toNat) 31 (by decide)
  rw [show ((31 : Nat) : Int) = 31 from rfl] at this
  rw [this, top_bit, BitVec.msb_or, BitVec.msb_and, BitVec.msb_and, BitVec.msb_not, BitVec.msb_not, BitVec.msb_xor]
  have mX : X.msb = decide (2147483648 ≤ X.toNat) := by rw [BitVec.msb_eq_decide]
  have mY : Y.msb = decide (2147483648 ≤ Y.toNat) := by rw [BitVec.msb_eq_decide]
  have mD : D.msb = decide (2147483648 ≤ D.toNat) := by rw [BitVec.msb_eq_decide]
  rw [mX, mY, mD, hD]
  congr 1
  by_cases a1 : 2147483648 ≤ X.toNat <;> by_cases a2 : 2147483648 ≤ Y.toNat <;> by_cases a3 : 2147483648 ≤ (4294967296 + X.toNat - Y.toNat - br) % 4294967296 <;> simp [a1, a2, a3] <;> omega

end Rf
