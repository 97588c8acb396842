/- slices.Sort at names, twelve at most: insertion sort. -/
import Derived.Test.YtlenaaghkiedbaaSortS
import Derived.Test.YtlenaaghkiedbaaEqSortW
set_option linter.unusedSimpArgs false
set_option linter.unusedVariables false
namespace Rf
open Go

def wLess (s t : ByteArray) : Bool := kless (s, 0) (t, 0)

theorem wLess_eq (s t : ByteArray) : Op.bytesLess s.toList t.toList = wLess s t := by
  unfold wLess kless
  simp

theorem less_run {n : Nat} (s t : ByteArray) : evF En0 (n + 2) 116 [.str s, .str t] = some [.bool (wLess s t)] := by
  rw [cmp_Less_string_eq, cmp_isNaN_string_eq]
  simp only [Option.bind_some, List.getElem?_cons_zero, asBool_bool, beq_self_eq_true, Bool.not_true, cond_false]
  rw [wLess_eq]

theorem w_at (xs : List ByteArray) (i : Nat) (h : i < xs.length) : at' (xs.map FV.str) i 0 = some (.str xs[i]) := by rw [at_map, List.getElem?_eq_getElem h]; rfl

theorem w4_run {n m0 i : Nat} : ∀ (j m : Nat) (xs : List ByteArray), j < m → j < xs.length → xs.length ≤ 12 →
    slices_insertionSortOrdered_string.l4 (n + 5) [m0] m [.list 1 (xs.map FV.str), .int .i64 0, .int .i64 (xs.length : Int), .int .i64 (i : Int), .int .i64 (j : Int)] =
      slices_insertionSortOrdered_string.l1 (n + 5) [] m0 [.list 1 ((bub wLess j xs).map FV.str), .int .i64 0, .int .i64 (xs.length : Int), .int .i64 (IntKind.wrap .i64 ((i : Int) + 1))]
  | 0, m, xs, hm, hl, h12 => by
    obtain ⟨m, rfl⟩ : ∃ k, m = k + 1 := ⟨m - 1, by omega⟩
    rw [slices_insertionSortOrdered_string.l4_eq, show decide (((0 : Nat) : Int) > 0) = false from rfl, cond_false]
    rfl
  | j + 1, m, xs, hm, hl, h12 => by
    obtain ⟨m, rfl⟩ : ∃ k, m = k + 1 := ⟨m - 1, by omega⟩
    have hj : j < xs.length := by omega
    have hw : IntKind.wrap .i64 (((j + 1 : Nat) : Int) - 1) = (j : Int) := by rw [wrap64_id (by omega) (by omega)]; omega
    rw [slices_insertionSortOrdered_string.l4_eq, show decide (((j + 1 : Nat) : Int) > 0) = true from decide_eq_true (by omega), cond_true, hw]
    simp only [List.length_map, List.length_set, ix_nat hl, ix_nat hj, Option.bind_some, w_at xs _ hl, w_at xs _ hj, asStr_str]
    rw [show n + 5 = (n + 3) + 2 by omega, less_run]
    simp only [Option.bind_some, List.getElem?_cons_zero, asBool_bool]
    simp only [bub, List.getElem?_eq_getElem hl, List.getElem?_eq_getElem hj]
    cases hc : wLess xs[j + 1] xs[j] with
    | true =>
      rw [cond_true, cond_true]
      have ih := w4_run (n := n) (m0 := m0) (i := i) j m ((xs.set (j + 1) xs[j]).set j xs[j + 1]) (by omega) (by simpa using hj) (by simpa using h12)
      simp only [List.length_set, List.map_set] at ih
      exact ih
    | false =>
      rw [cond_false, cond_false]

theorem w1_run {n : Nat} : ∀ (d i m : Nat) (xs : List ByteArray), i + d = xs.length → d < m → xs.length ≤ 12 → 12 < n + 5 →
    slices_insertionSortOrdered_string.l1 (n + 5) [] m [.list 1 (xs.map FV.str), .int .i64 0, .int .i64 (xs.length : Int), .int .i64 (i : Int)] = some [.list 1 ((isortN wLess d i xs).map FV.str)]
  | 0, i, m, xs, hi, hm, h12, hn => by
    obtain ⟨m, rfl⟩ : ∃ k, m = k + 1 := ⟨m - 1, by omega⟩
    rw [slices_insertionSortOrdered_string.l1_eq, show decide ((i : Int) < (xs.length : Int)) = false from decide_eq_false (by omega), cond_false]
    rfl
  | d + 1, i, m, xs, hi, hm, h12, hn => by
    obtain ⟨m, rfl⟩ : ∃ k, m = k + 1 := ⟨m - 1, by omega⟩
    rw [slices_insertionSortOrdered_string.l1_eq, show decide ((i : Int) < (xs.length : Int)) = true from decide_eq_true (by omega), cond_true]
    rw [w4_run (n := n) i (n + 5) xs (by omega) (by omega) h12, wrap_succ (by omega)]
    have ih := w1_run (n := n) d (i + 1) m (bub wLess i xs) (by rw [bub_len]; omega) (by omega) (by rw [bub_len]; exact h12) hn
    rw [bub_len] at ih
    exact ih

theorem sort_names {xs : List ByteArray} (h : xs.length ≤ 12) : evF En0 21 78 [.list 1 (xs.map FV.str)] = some [.list 1 ((isort wLess xs).map FV.str)] := by
  obtain ⟨r, hr⟩ := len_run xs.length h
  rw [slices_Sort_string_string_eq, List.length_map, hr]
  simp only [Option.bind_some, List.getElem?_cons_zero, asInt_int]
  rw [slices_pdqsortOrdered_string_eq, slices_pdqsortOrdered_string.l2_eq, wrap64_id (x := (xs.length : Int) - 0) (by omega) (by omega), show decide ((xs.length : Int) - 0 ≤ 12) = true from decide_eq_true (by omega), cond_true]
  rw [slices_insertionSortOrdered_string_eq, show IntKind.wrap .i64 (0 + 1) = ((1 : Nat) : Int) from rfl]
  unfold isort
  cases hx : xs with
  | nil => rw [slices_insertionSortOrdered_string.l1_eq]; rfl
  | cons x l =>
    rw [← hx]
    rw [w1_run (n := 13) (xs.length - 1) 1 18 xs (by rw [hx]; simp; omega) (by omega) h (by omega)]
    rfl

end Rf
