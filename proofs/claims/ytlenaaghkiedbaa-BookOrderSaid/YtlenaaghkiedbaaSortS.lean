/- slices.SortFunc at steps, twelve at most: insertion sort. -/
import Derived.Test.YtlenaaghkiedbaaIt2
import Derived.Test.YtlenaaghkiedbaaEqSortS
import Derived.Test.YtlenaaghkiedbaaSortL
import Derived.KernelRfl
set_option linter.unusedSimpArgs false
set_option linter.unusedVariables false
namespace Rf
open Go

def StV.fv (x : StV) : FV := .agg [.str x.s, .int .i64 x.a, .int .i64 x.b, .int .i64 x.c, .bool x.d, .int .i64 x.e, .int .i64 x.f]
def StV.key (x : StV) : ByteArray × Int := (x.s, x.a)
def stLess (x y : StV) : Bool := kless x.key y.key
/-- the closure that compares -/
abbrev cmpV : Value := .func (.func 48) #[] #[]

theorem cmpS_run {n : Nat} (s t : ByteArray) : ∃ r : Int, evF En0 (n + 2) 50 [.str s, .str t] = some [.int .i64 r] ∧ (r < 0 ↔ s.toList < t.toList) ∧ (r = 0 ↔ s = t) := by
  rw [cmp_Compare_string_eq, cmp_isNaN_string_eq, cmp_isNaN_string_eq]
  simp only [Option.bind_some, List.getElem?_cons_zero, asBool_bool, beq_self_eq_true, Bool.not_true, cond_false]
  rw [toList_eq]
  have hb := Go.Proofs.bytesLess_eq s.toList t.toList
  rw [hb]
  by_cases h1 : s.toList < t.toList
  · rw [decide_eq_true h1, cond_true]
    exact ⟨-1, rfl, by simp [h1], by simp; intro e; rw [e] at h1; exact List.lt_irrefl _ h1⟩
  · rw [decide_eq_false h1, cond_false]
    by_cases h2 : s = t
    · rw [decide_eq_true h2]
      exact ⟨0, rfl, by simp [h1], by simp [h2]⟩
    · rw [decide_eq_false h2]
      exact ⟨1, rfl, by simp [h1], by simp [h2]⟩

theorem cmpI_run {n : Nat} (s t : Int) : ∃ r : Int, evF En0 (n + 2) 51 [.int .i64 s, .int .i64 t] = some [.int .i64 r] ∧ (r < 0 ↔ s < t) := by
  rw [cmp_Compare_int_eq, cmp_isNaN_int_eq, cmp_isNaN_int_eq]
  simp only [Option.bind_some, List.getElem?_cons_zero, asBool_bool, bne_self_eq_false, cond_false]
  by_cases h1 : s < t
  · rw [decide_eq_true h1, cond_true]; exact ⟨-1, rfl, by simp [h1]⟩
  · rw [decide_eq_false h1, cond_false]
    by_cases h2 : s > t
    · rw [decide_eq_true h2]; exact ⟨1, rfl, by simp [h1]⟩
    · rw [decide_eq_false h2]; exact ⟨0, rfl, by simp [h1]⟩

theorem or_run {n : Nat} (a b : Int) : evF En0 (n + 4) 49 [.list 1 [.int .i64 a, .int .i64 b]] = some [.int .i64 (if a = 0 then b else a)] := by
  rw [cmp_Or_int_eq, cmp_Or_int.l3_eq]
  simp only [List.length_cons, List.length_nil]
  rw [show decide ((0 : Int) < ((0 + 1 + 1 : Nat) : Int)) = true from rfl, cond_true, show ix 0 (0 + 1 + 1) = some 0 from rfl]
  simp only [Option.bind_some, show at' [FV.int .i64 a, .int .i64 b] 0 0 = some (.int .i64 a) from rfl, asInt_int]
  by_cases h : a = 0
  · rw [if_pos h, show (a != 0) = false by simp [h], cond_false, cmp_Or_int.l3_eq]
    simp only [List.length_cons, List.length_nil]
    rw [show IntKind.wrap .i64 (0 + 1) = 1 from rfl, show decide ((1 : Int) < ((0 + 1 + 1 : Nat) : Int)) = true from rfl, cond_true, show ix 1 (0 + 1 + 1) = some 1 from rfl]
    simp only [Option.bind_some, show at' [FV.int .i64 a, .int .i64 b] 1 0 = some (.int .i64 b) from rfl, asInt_int]
    by_cases hb : b = 0
    · rw [show (b != 0) = false by simp [hb], cond_false, cmp_Or_int.l3_eq]
      simp only [List.length_cons, List.length_nil]
      rw [show decide (IntKind.wrap .i64 (1 + 1) < ((0 + 1 + 1 : Nat) : Int)) = false from rfl, cond_false, hb]
    · rw [show (b != 0) = true by simp [hb], cond_true]
  · rw [if_neg h, show (a != 0) = true by simp [h], cond_true]

theorem cmp_run {n : Nat} (x y : StV) : ∃ r : Int, evF En0 (n + 5) 48 [.str x.s, .int .i64 x.a, .int .i64 x.b, .int .i64 x.c, .bool x.d, .int .i64 x.e, .int .i64 x.f, .str y.s, .int .i64 y.a, .int .i64 y.b, .int .i64 y.c, .bool y.d, .int .i64 y.e, .int .i64 y.f] = some [.int .i64 r] ∧
    (r < 0 ↔ stLess x y = true) := by
  obtain ⟨r1, h1, l1, e1⟩ := cmpS_run (n := n + 2) x.s y.s
  obtain ⟨r2, h2, l2⟩ := cmpI_run (n := n + 2) x.a y.a
  rw [book_Book_Steps_1_eq, h1]
  simp only [Option.bind_some, List.getElem?_cons_zero, asInt_int]
  rw [h2]
  simp only [Option.bind_some, List.getElem?_cons_zero, asInt_int]
  rw [show elemsOf 2 (.int .i64 0) [(0, FV.int .i64 r1), (1, FV.int .i64 r2)] = [.int .i64 r1, .int .i64 r2] from rfl, or_run]
  simp only [Option.bind_some, List.getElem?_cons_zero, asInt_int]
  refine ⟨_, rfl, ?_⟩
  unfold stLess
  rw [kless_iff]
  simp only [StV.key]
  rw [← l1, ← l2, ← e1]
  by_cases h : r1 = 0
  · rw [if_pos h]; constructor
    · intro hh; exact .inr ⟨h, hh⟩
    · rintro (hh | ⟨_, hh⟩)
      · omega
      · exact hh
  · rw [if_neg h]; constructor
    · intro hh; exact .inl hh
    · rintro (hh | ⟨hh, _⟩)
      · exact hh
      · exact absurd hh h

theorem st_at (xs : List StV) (i c : Nat) (h : i < xs.length) : at' (xs.map StV.fv) i c = (StV.fv xs[i]).cells[c]? := by rw [at_map, List.getElem?_eq_getElem h]; rfl

theorem s4_run {n m0 i : Nat} : ∀ (j m : Nat) (xs : List StV), j < m → j < xs.length → xs.length ≤ 12 →
    api_Step_92.l4 (n + 5) [m0] m [.list 7 (xs.map StV.fv), .int .i64 0, .int .i64 (xs.length : Int), .raw cmpV, .int .i64 (i : Int), .int .i64 (j : Int)] =
      api_Step_92.l1 (n + 5) [] m0 [.list 7 ((bub stLess j xs).map StV.fv), .int .i64 0, .int .i64 (xs.length : Int), .raw cmpV, .int .i64 (IntKind.wrap .i64 ((i : Int) + 1))]
  | 0, m, xs, hm, hl, h12 => by
    obtain ⟨m, rfl⟩ : ∃ k, m = k + 1 := ⟨m - 1, by omega⟩
    rw [api_Step_92.l4_eq, show decide (((0 : Nat) : Int) > 0) = false from rfl, cond_false]
    rfl
  | j + 1, m, xs, hm, hl, h12 => by
    obtain ⟨m, rfl⟩ : ∃ k, m = k + 1 := ⟨m - 1, by omega⟩
    have hj : j < xs.length := by omega
    obtain ⟨r, hr, hs⟩ := cmp_run (n := n) xs[j + 1] xs[j]
    have hw : IntKind.wrap .i64 (((j + 1 : Nat) : Int) - 1) = (j : Int) := by rw [wrap64_id (by omega) (by omega)]; omega
    rw [api_Step_92.l4_eq, show decide (((j + 1 : Nat) : Int) > 0) = true from decide_eq_true (by omega), cond_true, hw]
    simp only [List.length_map, List.length_set, ix_nat hl, ix_nat hj, Option.bind_some, st_at xs _ _ hl, st_at xs _ _ hj, StV.fv, FV.cells, List.getElem?_cons_zero, List.getElem?_cons_succ, asInt_int, asStr_str, asBool_bool]
    rw [hr]
    simp only [Option.bind_some, List.getElem?_cons_zero, asInt_int]
    simp only [bub, List.getElem?_eq_getElem hl, List.getElem?_eq_getElem hj]
    by_cases hc : stLess xs[j + 1] xs[j] = true
    · rw [decide_eq_true (hs.2 hc), cond_true, hc, cond_true]
      have ih := s4_run (n := n) (m0 := m0) (i := i) j m ((xs.set (j + 1) xs[j]).set j xs[j + 1]) (by omega) (by simpa using hj) (by simpa using h12)
      simp only [List.length_set, List.map_set, StV.fv] at ih
      exact ih
    · rw [decide_eq_false (fun h => hc (hs.1 h)), cond_false]
      rw [show stLess xs[j + 1] xs[j] = false by simpa using hc, cond_false]

theorem s1_run {n : Nat} : ∀ (d i m : Nat) (xs : List StV), i + d = xs.length → d < m → xs.length ≤ 12 → 12 < n + 5 →
    api_Step_92.l1 (n + 5) [] m [.list 7 (xs.map StV.fv), .int .i64 0, .int .i64 (xs.length : Int), .raw cmpV, .int .i64 (i : Int)] = some [.list 7 ((isortN stLess d i xs).map StV.fv)]
  | 0, i, m, xs, hi, hm, h12, hn => by
    obtain ⟨m, rfl⟩ : ∃ k, m = k + 1 := ⟨m - 1, by omega⟩
    rw [api_Step_92.l1_eq, show decide ((i : Int) < (xs.length : Int)) = false from decide_eq_false (by omega), cond_false]
    rfl
  | d + 1, i, m, xs, hi, hm, h12, hn => by
    obtain ⟨m, rfl⟩ : ∃ k, m = k + 1 := ⟨m - 1, by omega⟩
    rw [api_Step_92.l1_eq, show decide ((i : Int) < (xs.length : Int)) = true from decide_eq_true (by omega), cond_true]
    rw [s4_run (n := n) i (n + 5) xs (by omega) (by omega) h12, wrap_succ (by omega)]
    have ih := s1_run (n := n) d (i + 1) m (bub stLess i xs) (by rw [bub_len]; omega) (by omega) (by rw [bub_len]; exact h12) hn
    rw [bub_len] at ih
    exact ih

theorem len_run (k : Nat) (h : k ≤ 12) : ∃ r, evF En0 20 83 [.int .u64 (IntKind.wrap .u64 (k : Int))] = some [.int .i64 r] := by
  have : k = 0 ∨ k = 1 ∨ k = 2 ∨ k = 3 ∨ k = 4 ∨ k = 5 ∨ k = 6 ∨ k = 7 ∨ k = 8 ∨ k = 9 ∨ k = 10 ∨ k = 11 ∨ k = 12 := by omega
  rcases this with h | h | h | h | h | h | h | h | h | h | h | h | h
  · rw [h]; exact ⟨0, by rw [bits_Len_eq, bits_Len64_eq]; kernel_rfl⟩
  · rw [h]; exact ⟨1, by rw [bits_Len_eq, bits_Len64_eq]; kernel_rfl⟩
  · rw [h]; exact ⟨2, by rw [bits_Len_eq, bits_Len64_eq]; kernel_rfl⟩
  · rw [h]; exact ⟨2, by rw [bits_Len_eq, bits_Len64_eq]; kernel_rfl⟩
  · rw [h]; exact ⟨3, by rw [bits_Len_eq, bits_Len64_eq]; kernel_rfl⟩
  · rw [h]; exact ⟨3, by rw [bits_Len_eq, bits_Len64_eq]; kernel_rfl⟩
  · rw [h]; exact ⟨3, by rw [bits_Len_eq, bits_Len64_eq]; kernel_rfl⟩
  · rw [h]; exact ⟨3, by rw [bits_Len_eq, bits_Len64_eq]; kernel_rfl⟩
  · rw [h]; exact ⟨4, by rw [bits_Len_eq, bits_Len64_eq]; kernel_rfl⟩
  · rw [h]; exact ⟨4, by rw [bits_Len_eq, bits_Len64_eq]; kernel_rfl⟩
  · rw [h]; exact ⟨4, by rw [bits_Len_eq, bits_Len64_eq]; kernel_rfl⟩
  · rw [h]; exact ⟨4, by rw [bits_Len_eq, bits_Len64_eq]; kernel_rfl⟩
  · rw [h]; exact ⟨4, by rw [bits_Len_eq, bits_Len64_eq]; kernel_rfl⟩

/-- SortFunc of twelve steps at most -/
theorem sort_steps {xs : List StV} (h : xs.length ≤ 12) : evF En0 21 65 [.list 7 (xs.map StV.fv), .raw cmpV] = some [.list 7 ((isort stLess xs).map StV.fv)] := by
  obtain ⟨r, hr⟩ := len_run xs.length h
  rw [api_Step_65_eq, List.length_map, hr]
  simp only [Option.bind_some, List.getElem?_cons_zero, asInt_int]
  rw [api_Step_82_eq, api_Step_82.l2_eq, wrap64_id (x := (xs.length : Int) - 0) (by omega) (by omega), show decide ((xs.length : Int) - 0 ≤ 12) = true from decide_eq_true (by omega), cond_true]
  rw [api_Step_92_eq, show IntKind.wrap .i64 (0 + 1) = ((1 : Nat) : Int) from rfl]
  unfold isort
  cases hx : xs with
  | nil => rw [api_Step_92.l1_eq]; rfl
  | cons x l =>
    rw [← hx]
    rw [s1_run (n := 13) (xs.length - 1) 1 18 xs (by rw [hx]; simp; omega) (by omega) h (by omega)]
    rfl

end Rf
