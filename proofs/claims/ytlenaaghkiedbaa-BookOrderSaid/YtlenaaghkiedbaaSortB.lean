/- slices.SortFunc at blocks, twelve at most: insertion sort. -/
import Derived.Test.YtlenaaghkiedbaaSortS
import Derived.Test.YtlenaaghkiedbaaEqSortB
import Derived.KernelRfl
set_option linter.unusedSimpArgs false
set_option linter.unusedVariables false
namespace Rf
open Go

/-- a block, read -/
structure BkF where
  w : ByteArray
  a : Int
  b : Int
  c : Bool
  d : Int
  q : List FV
  e : Int
  f : Int

def BkF.fv (x : BkF) : FV := .agg [.str x.w, .int .i64 x.a, .int .i64 x.b, .bool x.c, .int .i64 x.d, .list 1 x.q, .int .i64 x.e, .int .i64 x.f]
def BkF.key (x : BkF) : ByteArray × Int := (x.w, x.a)
def bkLess (x y : BkF) : Bool := kless x.key y.key
/-- the closure that compares -/
abbrev cmpB : Value := .func (.func 56) #[] #[]

theorem cmpB_run {n : Nat} (x y : BkF) : ∃ r : Int, evF En0 (n + 5) 56 [.str x.w, .int .i64 x.a, .int .i64 x.b, .bool x.c, .int .i64 x.d, .list 1 x.q, .int .i64 x.e, .int .i64 x.f, .str y.w, .int .i64 y.a, .int .i64 y.b, .bool y.c, .int .i64 y.d, .list 1 y.q, .int .i64 y.e, .int .i64 y.f] = some [.int .i64 r] ∧
    (r < 0 ↔ bkLess x y = true) := by
  obtain ⟨r1, h1, l1, e1⟩ := cmpS_run (n := n + 2) x.w y.w
  obtain ⟨r2, h2, l2⟩ := cmpI_run (n := n + 2) x.a y.a
  rw [book_Book_Blocks_1_eq, h1]
  simp only [Option.bind_some, List.getElem?_cons_zero, asInt_int]
  rw [h2]
  simp only [Option.bind_some, List.getElem?_cons_zero, asInt_int]
  rw [show elemsOf 2 (.int .i64 0) [(0, FV.int .i64 r1), (1, FV.int .i64 r2)] = [.int .i64 r1, .int .i64 r2] from rfl, or_run]
  simp only [Option.bind_some, List.getElem?_cons_zero, asInt_int]
  refine ⟨_, rfl, ?_⟩
  unfold bkLess
  rw [kless_iff]
  simp only [BkF.key]
  rw [← l1, ← l2, ← e1]
  by_cases h : r1 = 0
  · rw [if_pos h]; constructor
    · intro hh; exact .inr ⟨h, hh⟩
    · rintro (hh | ⟨_, hh⟩)
      · omega
      · exact hh
  · rw [if_neg h]; constructor
    · intro hh; exact .inl hh
    · rintro (hh | ⟨hh, _⟩)
      · exact hh
      · exact absurd hh h

theorem bk_at (xs : List BkF) (i c : Nat) (h : i < xs.length) : at' (xs.map BkF.fv) i c = (BkF.fv xs[i]).cells[c]? := by rw [at_map, List.getElem?_eq_getElem h]; rfl

theorem b4_run {n m0 i : Nat} : ∀ (j m : Nat) (xs : List BkF), j < m → j < xs.length → xs.length ≤ 12 →
    api_Block_102.l4 (n + 5) [m0] m [.list 8 (xs.map BkF.fv), .int .i64 0, .int .i64 (xs.length : Int), .raw cmpB, .int .i64 (i : Int), .int .i64 (j : Int)] =
      api_Block_102.l1 (n + 5) [] m0 [.list 8 ((bub bkLess j xs).map BkF.fv), .int .i64 0, .int .i64 (xs.length : Int), .raw cmpB, .int .i64 (IntKind.wrap .i64 ((i : Int) + 1))]
  | 0, m, xs, hm, hl, h12 => by
    obtain ⟨m, rfl⟩ : ∃ k, m = k + 1 := ⟨m - 1, by omega⟩
    rw [api_Block_102.l4_eq, show decide (((0 : Nat) : Int) > 0) = false from rfl, cond_false]
    rfl
  | j + 1, m, xs, hm, hl, h12 => by
    obtain ⟨m, rfl⟩ : ∃ k, m = k + 1 := ⟨m - 1, by omega⟩
    have hj : j < xs.length := by omega
    obtain ⟨r, hr, hs⟩ := cmpB_run (n := n) xs[j + 1] xs[j]
    have hw : IntKind.wrap .i64 (((j + 1 : Nat) : Int) - 1) = (j : Int) := by rw [wrap64_id (by omega) (by omega)]; omega
    rw [api_Block_102.l4_eq, show decide (((j + 1 : Nat) : Int) > 0) = true from decide_eq_true (by omega), cond_true, hw]
    simp only [List.length_map, List.length_set, ix_nat hl, ix_nat hj, Option.bind_some, bk_at xs _ _ hl, bk_at xs _ _ hj, BkF.fv, FV.cells, List.getElem?_cons_zero, List.getElem?_cons_succ, asInt_int, asStr_str, asBool_bool, asLst_list]
    rw [hr]
    simp only [Option.bind_some, List.getElem?_cons_zero, asInt_int]
    simp only [bub, List.getElem?_eq_getElem hl, List.getElem?_eq_getElem hj]
    by_cases hc : bkLess xs[j + 1] xs[j] = true
    · rw [decide_eq_true (hs.2 hc), cond_true, hc, cond_true]
      have ih := b4_run (n := n) (m0 := m0) (i := i) j m ((xs.set (j + 1) xs[j]).set j xs[j + 1]) (by omega) (by simpa using hj) (by simpa using h12)
      simp only [List.length_set, List.map_set, BkF.fv] at ih
      exact ih
    · rw [decide_eq_false (fun h => hc (hs.1 h)), cond_false]
      rw [show bkLess xs[j + 1] xs[j] = false by simpa using hc, cond_false]

theorem b1_run {n : Nat} : ∀ (d i m : Nat) (xs : List BkF), i + d = xs.length → d < m → xs.length ≤ 12 → 12 < n + 5 →
    api_Block_102.l1 (n + 5) [] m [.list 8 (xs.map BkF.fv), .int .i64 0, .int .i64 (xs.length : Int), .raw cmpB, .int .i64 (i : Int)] = some [.list 8 ((isortN bkLess d i xs).map BkF.fv)]
  | 0, i, m, xs, hi, hm, h12, hn => by
    obtain ⟨m, rfl⟩ : ∃ k, m = k + 1 := ⟨m - 1, by omega⟩
    rw [api_Block_102.l1_eq, show decide ((i : Int) < (xs.length : Int)) = false from decide_eq_false (by omega), cond_false]
    rfl
  | d + 1, i, m, xs, hi, hm, h12, hn => by
    obtain ⟨m, rfl⟩ : ∃ k, m = k + 1 := ⟨m - 1, by omega⟩
    rw [api_Block_102.l1_eq, show decide ((i : Int) < (xs.length : Int)) = true from decide_eq_true (by omega), cond_true]
    rw [b4_run (n := n) i (n + 5) xs (by omega) (by omega) h12, wrap_succ (by omega)]
    have ih := b1_run (n := n) d (i + 1) m (bub bkLess i xs) (by rw [bub_len]; omega) (by omega) (by rw [bub_len]; exact h12) hn
    rw [bub_len] at ih
    exact ih

/-- SortFunc of twelve blocks at most -/
theorem sort_blocks {xs : List BkF} (h : xs.length ≤ 12) : evF En0 21 75 [.list 8 (xs.map BkF.fv), .raw cmpB] = some [.list 8 ((isort bkLess xs).map BkF.fv)] := by
  obtain ⟨r, hr⟩ := len_run xs.length h
  rw [api_Block_75_eq, List.length_map, hr]
  simp only [Option.bind_some, List.getElem?_cons_zero, asInt_int]
  rw [api_Block_89_eq, api_Block_89.l2_eq, wrap64_id (x := (xs.length : Int) - 0) (by omega) (by omega), show decide ((xs.length : Int) - 0 ≤ 12) = true from decide_eq_true (by omega), cond_true]
  rw [api_Block_102_eq, show IntKind.wrap .i64 (0 + 1) = ((1 : Nat) : Int) from rfl]
  unfold isort
  cases hx : xs with
  | nil => rw [api_Block_102.l1_eq]; rfl
  | cons x l =>
    rw [← hx]
    rw [b1_run (n := 13) (xs.length - 1) 1 18 xs (by rw [hx]; simp; omega) (by omega) h (by omega)]
    rfl

end Rf
