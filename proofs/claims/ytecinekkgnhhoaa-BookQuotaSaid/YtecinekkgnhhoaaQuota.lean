/- BookQuota: what is computed of its leaves is true. -/
import Derived.Test.YtecinekkgnhhoaaEqQuota
import Derived.Test.YtecinekkgnhhoaaRf29
set_option linter.unusedSimpArgs false
set_option linter.unusedVariables false
set_option maxHeartbeats 1000000
namespace Rf
open Go

/-- An ask, by its fields. -/
structure Ask where
  kind : Int
  cents : Int
  seq : Int
  sw : ByteArray
  s1 : Int
  s2 : Int
  s3 : Int
  sb : Bool
  s5 : Int
  s6 : Int
  bw : ByteArray
  b1 : Int
  b2 : Int
  bb : Bool
  b4 : Int
  bq : List FV
  b6 : Int
  b7 : Int

def Ask.L (a : Ask) : List FV := [.int .i64 a.kind, .int .i64 a.cents, .int .i64 a.seq, .str a.sw, .int .i64 a.s1, .int .i64 a.s2, .int .i64 a.s3, .bool a.sb, .int .i64 a.s5, .int .i64 a.s6,
  .str a.bw, .int .i64 a.b1, .int .i64 a.b2, .bool a.bb, .int .i64 a.b4, .list 1 a.bq, .int .i64 a.b6, .int .i64 a.b7]

structure Stp where
  who : ByteArray
  a : Ask

def Stp.fv (s : Stp) : FV := .agg (.str s.who :: s.a.L)

def stpShp : List Shp := [.str, .int .i64, .int .i64, .int .i64, .str, .int .i64, .int .i64, .int .i64, .bool, .int .i64, .int .i64, .str, .int .i64, .int .i64, .bool, .int .i64, .lst false 8 [.int .i64], .int .i64, .int .i64]

theorem stp_of {cs : List FV} (h : All2 Fits stpShp cs) : ∃ s : Stp, mkEl true cs = s.fv ∧ True := by
  obtain ⟨y1, r1, rfl, g1, h⟩ := h.cons_inv
  obtain ⟨y2, r2, rfl, g2, h⟩ := h.cons_inv
  obtain ⟨y3, r3, rfl, g3, h⟩ := h.cons_inv
  obtain ⟨y4, r4, rfl, g4, h⟩ := h.cons_inv
  obtain ⟨y5, r5, rfl, g5, h⟩ := h.cons_inv
  obtain ⟨y6, r6, rfl, g6, h⟩ := h.cons_inv
  obtain ⟨y7, r7, rfl, g7, h⟩ := h.cons_inv
  obtain ⟨y8, r8, rfl, g8, h⟩ := h.cons_inv
  obtain ⟨y9, r9, rfl, g9, h⟩ := h.cons_inv
  obtain ⟨y10, r10, rfl, g10, h⟩ := h.cons_inv
  obtain ⟨y11, r11, rfl, g11, h⟩ := h.cons_inv
  obtain ⟨y12, r12, rfl, g12, h⟩ := h.cons_inv
  obtain ⟨y13, r13, rfl, g13, h⟩ := h.cons_inv
  obtain ⟨y14, r14, rfl, g14, h⟩ := h.cons_inv
  obtain ⟨y15, r15, rfl, g15, h⟩ := h.cons_inv
  obtain ⟨y16, r16, rfl, g16, h⟩ := h.cons_inv
  obtain ⟨y17, r17, rfl, g17, h⟩ := h.cons_inv
  obtain ⟨y18, r18, rfl, g18, h⟩ := h.cons_inv
  obtain ⟨y19, r19, rfl, g19, h⟩ := h.cons_inv
  obtain rfl := h.nil_inv
  obtain ⟨n1, rfl, _⟩ := g1.str_inv
  obtain ⟨n2, rfl, _⟩ := g2.int_inv
  obtain ⟨n3, rfl, _⟩ := g3.int_inv
  obtain ⟨n4, rfl, _⟩ := g4.int_inv
  obtain ⟨n5, rfl, _⟩ := g5.str_inv
  obtain ⟨n6, rfl, _⟩ := g6.int_inv
  obtain ⟨n7, rfl, _⟩ := g7.int_inv
  obtain ⟨n8, rfl, _⟩ := g8.int_inv
  obtain ⟨n9, rfl⟩ := g9.bool_inv
  obtain ⟨n10, rfl, _⟩ := g10.int_inv
  obtain ⟨n11, rfl, _⟩ := g11.int_inv
  obtain ⟨n12, rfl, _⟩ := g12.str_inv
  obtain ⟨n13, rfl, _⟩ := g13.int_inv
  obtain ⟨n14, rfl, _⟩ := g14.int_inv
  obtain ⟨n15, rfl⟩ := g15.bool_inv
  obtain ⟨n16, rfl, _⟩ := g16.int_inv
  obtain ⟨n17, rfl, _, _⟩ := g17.lst_inv
  obtain ⟨n18, rfl, _⟩ := g18.int_inv
  obtain ⟨n19, rfl, _⟩ := g19.int_inv
  exact ⟨⟨n1, ⟨n2, n3, n4, n5, n6, n7, n8, n9, n10, n11, n12, n13, n14, n15, n16, n17.map (mkEl false), n18, n19⟩⟩, rfl, trivial⟩

/-- an account -/
def acct (a b c d e : Int) : FV := .agg [.int .i64 a, .int .i64 b, .int .i64 c, .int .i64 d, .int .i64 e]

theorem keq_str (s : ByteArray) : keq (.str s) (.str s) = true := by simp [keq, FV.cells, keqs, keq1]

/-- who has so much locked, and so many asks, and nothing else -/
def Has (es : List FV) (w : ByteArray) (lk ak : Int) : Prop := mgetD es (.str w) (.agg [.int .i64 0, .int .i64 0, .int .i64 0, .int .i64 0, .int .i64 0]) = .agg [.int .i64 lk, .int .i64 0, .int .i64 ak, .int .i64 0, .int .i64 0]

/-- a book in which nothing but accounts stand -/
def bkL (c1 c2 c3 : Int) (es : List FV) (c4 : Int) : List FV := [.list 3 [], .int .i64 c1, .list 3 [], .int .i64 c2, .list 3 [], .int .i64 c3, .list 3 es, .int .i64 c4]

theorem Has.put {es : List FV} {w : ByteArray} {c : Int} (lk' ak' : Int) : Has (mput es (.str w) (.agg [.int .i64 lk', .int .i64 0, .int .i64 ak', .int .i64 0, .int .i64 0]) c) w lk' ak' := by
  unfold Has
  rw [mgetD_mput, keq_str, cond_true]

theorem Has.nil (w : ByteArray) : Has [] w 0 0 := rfl

section
variable {n : Nat} {c1 c2 c3 c4 lk ak : Int} {es : List FV} {w : ByteArray} {a : Ask}

theorem named_run (a : Ask) : ∃ m, evF En (n + 1) 43 (.str w :: a.L) = some [.str w, .int .i64 m] := by
  unfold Ask.L
  rw [book_named_eq]
  cases (a.kind == 2) <;> cases (a.kind == 3) <;> exact ⟨_, rfl⟩

theorem may_quota (h : Has es w lk ak) (hk : 1 ≤ a.kind ∧ a.kind ≤ 4) (ha : 24 ≤ ak) : evF En (n + 2) 42 (bkL c1 c2 c3 es c4 ++ .str w :: a.L) = some (bkL c1 c2 c3 es c4 ++ [.int .i64 101]) := by
  obtain ⟨m, hm⟩ := named_run (n := n) (w := w) a
  unfold Ask.L at hm
  unfold bkL Ask.L
  simp only [List.cons_append, List.nil_append]
  unfold Has at h
  rw [book_Book_May_eq, hm, h]
  simp only [at_one, FV.cells, List.getElem?_cons_zero, List.getElem?_cons_succ, asInt_int, asStr_str, asBool_bool, asLst_list, Option.bind_some, mgetD]
  rw [show decide (a.kind < 1) = false from decide_eq_false (by omega), show decide (a.kind > 4) = false from decide_eq_false (by omega), show decide (ak ≥ 24) = true from decide_eq_true (by omega)]
  rfl

theorem may_lock (h : Has es w lk ak) (ha : ak < 24) (hk : a.kind = 1) (hc : a.cents = 1) : evF En (n + 2) 42 (bkL c1 c2 c3 es c4 ++ .str w :: a.L) = some (bkL c1 c2 c3 es c4 ++ [.int .i64 0]) := by
  obtain ⟨m, hm⟩ := named_run (n := n) (w := w) a
  unfold Ask.L at hm
  unfold bkL Ask.L
  simp only [List.cons_append, List.nil_append]
  unfold Has at h
  rw [book_Book_May_eq, hm, h]
  simp only [at_one, FV.cells, List.getElem?_cons_zero, List.getElem?_cons_succ, asInt_int, asStr_str, asBool_bool, asLst_list, Option.bind_some, mgetD]
  rw [hk, hc, show decide (ak ≥ 24) = false from decide_eq_false (by omega)]
  rfl

theorem may_none (h : Has es w lk ak) (ha : ak < 24) (hk : a.kind = 4) : evF En (n + 2) 42 (bkL c1 c2 c3 es c4 ++ .str w :: a.L) = some (bkL c1 c2 c3 es c4 ++ [.int .i64 102]) := by
  obtain ⟨m, hm⟩ := named_run (n := n) (w := w) a
  unfold Ask.L at hm
  unfold bkL Ask.L
  simp only [List.cons_append, List.nil_append]
  unfold Has at h
  rw [book_Book_May_eq, hm, h]
  simp only [at_one, FV.cells, List.getElem?_cons_zero, List.getElem?_cons_succ, asInt_int, asStr_str, asBool_bool, asLst_list, Option.bind_some, mgetD]
  rw [hk, show decide (ak ≥ 24) = false from decide_eq_false (by omega)]
  rfl

/-- what May refuses is not added -/
theorem add_no {B : List FV} {e : Int} (he : e ≠ 0) (hB : ∃ e0 x0 e1 x1 e2 x2 e3 x3, B = [.list 3 e0, .int .i64 x0, .list 3 e1, .int .i64 x1, .list 3 e2, .int .i64 x2, .list 3 e3, .int .i64 x3])
    (h : evF En n 42 (B ++ .str w :: a.L) = some (B ++ [.int .i64 e])) : evF En (n + 1) 20 (B ++ .str w :: a.L) = some (B ++ [.int .i64 e]) := by
  obtain ⟨e0, x0, e1, x1, e2, x2, e3, x3, rfl⟩ := hB
  unfold Ask.L at h ⊢
  simp only [List.cons_append, List.nil_append] at h ⊢
  rw [book_Book_Add_eq, h]
  rw [Option.bind_some]
  simp only [List.getElem?_cons_zero, List.getElem?_cons_succ]
  repeat (first | rw [Option.bind_some] | rw [asLst_list] | rw [asInt_int] | rw [asStr_str] | rw [asBool_bool])
  rw [show (e != 0) = true by simp [he], cond_true]

theorem add_lock (h : Has es w lk ak) (h1 : 0 ≤ lk ∧ lk < 1000) (ha : 0 ≤ ak ∧ ak < 24) (hk : a.kind = 1) (hc : a.cents = 1) :
    ∃ es' c4', evF En (n + 3) 20 (bkL c1 c2 c3 es c4 ++ .str w :: a.L) = some (bkL c1 c2 c3 es' c4' ++ [.int .i64 0]) ∧ Has es' w (lk + 1) (ak + 1) := by
  have hm := may_lock (n := n) (c1 := c1) (c2 := c2) (c3 := c3) (c4 := c4) h ha.2 hk hc
  obtain ⟨m, hn⟩ := named_run (n := n + 1) (w := w) a
  refine ⟨_, mclk es (.str w) c4, ?_, Has.put (es := es) (w := w) (c := c4) (lk + 1) (ak + 1)⟩
  unfold Has at h
  unfold bkL Ask.L at hm ⊢
  unfold Ask.L at hn
  simp only [List.cons_append, List.nil_append] at hm ⊢
  rw [book_Book_Add_eq, hm]
  rw [Option.bind_some]
  simp only [List.getElem?_cons_zero, List.getElem?_cons_succ]
  repeat (first | rw [Option.bind_some] | rw [asLst_list] | rw [asInt_int] | rw [asStr_str] | rw [asBool_bool])
  rw [show ((0 : Int) != 0) = false from rfl, cond_false, h]
  simp only [at_one, FV.cells, List.getElem?_cons_zero, List.getElem?_cons_succ]
  repeat (first | rw [Option.bind_some] | rw [asLst_list] | rw [asInt_int] | rw [asStr_str] | rw [asBool_bool])
  rw [hn, Option.bind_some]
  simp only [List.getElem?_cons_zero, List.getElem?_cons_succ]
  rw [asStr_str, Option.bind_some, asInt_int, Option.bind_some, hk, hc]
  rw [show ((1 : Int) == 1) = true from rfl, cond_true, show ((1 : Int) == 2) = false from rfl, cond_false, show ((1 : Int) == 3) = false from rfl, cond_false]
  rw [wrap64_id (x := lk + 1) (by omega) (by omega), wrap64_id (x := ak + 1) (by omega) (by omega)]

theorem asks_run (h : Has es w lk ak) : evF En (n + 1) 21 (bkL c1 c2 c3 es c4 ++ [.str w]) = some (bkL c1 c2 c3 es c4 ++ [.int .i64 ak]) := by
  unfold Has at h
  unfold bkL
  simp only [List.cons_append, List.nil_append]
  rw [book_Book_Asks_eq, h]
  rfl
theorem locked_run (h : Has es w lk ak) : evF En (n + 1) 22 (bkL c1 c2 c3 es c4 ++ [.str w]) = some (bkL c1 c2 c3 es c4 ++ [.int .i64 lk]) := by
  unfold Has at h
  unfold bkL
  simp only [List.cons_append, List.nil_append]
  rw [book_Book_Locked_eq, h]
  rfl


/-! ### the law -/

def W : ByteArray := { data := #[119, 104, 111] }
def lockA : Ask := ⟨1, 1, 0, { data := #[] }, 0, 0, 0, false, 0, 0, { data := #[] }, 0, 0, false, 0, [], 0, 0⟩
def noneA : Ask := ⟨4, 0, 999, { data := #[] }, 0, 0, 0, false, 0, 0, { data := #[] }, 0, 0, false, 0, [], 0, 0⟩

theorem bk_shape : ∃ e0 x0 e1 x1 e2 x2 e3 x3, bkL c1 c2 c3 es c4 = [.list 3 e0, .int .i64 x0, .list 3 e1, .int .i64 x1, .list 3 e2, .int .i64 x2, .list 3 e3, .int .i64 x3] := ⟨_, _, _, _, _, _, _, _, rfl⟩

theorem add_quota (h : Has es w lk ak) (hk : 1 ≤ a.kind ∧ a.kind ≤ 4) (ha : 24 ≤ ak) : evF En (n + 3) 20 (bkL c1 c2 c3 es c4 ++ .str w :: a.L) = some (bkL c1 c2 c3 es c4 ++ [.int .i64 101]) :=
  add_no (n := n + 2) (by decide) bk_shape (may_quota (n := n) h hk ha)
theorem add_none (h : Has es w lk ak) (ha : ak < 24) (hk : a.kind = 4) : evF En (n + 3) 20 (bkL c1 c2 c3 es c4 ++ .str w :: a.L) = some (bkL c1 c2 c3 es c4 ++ [.int .i64 102]) :=
  add_no (n := n + 2) (by decide) bk_shape (may_none (n := n) h ha hk)

theorem tmod40 {x : Int} (h0 : 0 ≤ x) (h1 : x ≤ 255) : ∃ N : Nat, Int.tmod (IntKind.wrap .i64 x) 40 = N ∧ N < 40 := by
  rw [wrap64_id (by omega) (by omega)]
  obtain ⟨k, rfl⟩ := Int.eq_ofNat_of_zero_le h0
  exact ⟨k % 40, rfl, Nat.mod_lt _ (by decide)⟩

theorem mins (N : Nat) : (if (24 : Int) < (N : Int) then (24 : Int) else (N : Int)) = ((min N 24 : Nat) : Int) := by
  split <;> omega

/-- the second loop -/
theorem l19_run {x : Int} {N : Nat} {l : List Stp} (hN : Int.tmod (IntKind.wrap .i64 x) 40 = N) (hl : l.length < 100000) (h : Has es W ((min N 24 : Nat) : Int) ((min N 24 : Nat) : Int)) :
    ∀ (d i m : Nat), i + d = l.length → d < m → noonbelllaw10_BookQuota.l19 (n + 3) [] m ([.int .u8 x, .list 19 (l.map Stp.fv)] ++ bkL c1 c2 c3 es c4 ++ [.bool (((min N 24 : Nat) : Int) == 24), .int .i64 (i : Int)]) = some [.bool true] := by
  intro d
  have last : (evF En (n + 3) 22 (bkL c1 c2 c3 es c4 ++ [.str W])) = some (bkL c1 c2 c3 es c4 ++ [.int .i64 ((min N 24 : Nat) : Int)]) := locked_run (n := n + 2) h
  unfold bkL W at last
  simp only [List.cons_append, List.nil_append] at last
  induction d with
  | zero =>
    intro i m hi hm
    obtain ⟨m, rfl⟩ : ∃ k, m = k + 1 := ⟨m - 1, by omega⟩
    unfold bkL
    simp only [List.cons_append, List.nil_append]
    rw [noonbelllaw10_BookQuota.l19_eq, List.length_map, show decide ((i : Int) < (l.length : Int)) = false from decide_eq_false (by omega), cond_false, last]
    simp only [Option.bind_some, List.getElem?_cons_zero, List.getElem?_cons_succ, asLst_list, asInt_int]
    rw [hN, mins, beq_self_eq_true]
  | succ d ih =>
    intro i m hi hm
    obtain ⟨m, rfl⟩ : ∃ k, m = k + 1 := ⟨m - 1, by omega⟩
    have next := ih (i + 1) m (by omega) (by omega)
    unfold bkL at next ⊢
    simp only [List.cons_append, List.nil_append] at next ⊢
    rw [noonbelllaw10_BookQuota.l19_eq, List.length_map, show decide ((i : Int) < (l.length : Int)) = true from decide_eq_true (by omega), cond_true]
    cases hb : (((min N 24 : Nat) : Int) == 24) with
    | false =>
      rw [cond_false, last]
      simp only [Option.bind_some, List.getElem?_cons_zero, List.getElem?_cons_succ, asLst_list, asInt_int]
      rw [hN, mins, beq_self_eq_true]
    | true =>
      rw [hb] at next
      have hlt : i < l.length := by omega
      rw [cond_true]
      have hel : ∀ c, at' (l.map Stp.fv) i c = (Stp.fv l[i]).cells[c]? := fun c => by rw [at_map, List.getElem?_eq_getElem hlt]; rfl
      generalize hs : l[i] = s at hel
      simp only [ix_nat hlt, Option.bind_some, hel, Stp.fv, Ask.L, FV.cells, List.getElem?_cons_zero, List.getElem?_cons_succ, asInt_int, asStr_str, asBool_bool, asLst_list]
      rw [wrap_succ (by omega)]
      by_cases h1 : s.a.kind ≥ 1
      · rw [decide_eq_true h1, cond_true]
        by_cases h4 : s.a.kind ≤ 4
        · rw [decide_eq_true h4, cond_true]
          have hq := add_quota (n := n) (c1 := c1) (c2 := c2) (c3 := c3) (c4 := c4) (a := s.a) h ⟨by omega, h4⟩ (by have := eq_of_beq hb; omega)
          unfold bkL W Ask.L at hq
          simp only [List.cons_append, List.nil_append] at hq
          rw [hq]
          simp only [asInt_int, asStr_str, asBool_bool, asLst_list, Option.bind_some, List.getElem?_cons_zero, List.getElem?_cons_succ]
          exact next
        · rw [decide_eq_false h4, cond_false]
          exact next
      · rw [decide_eq_false h1, cond_false]
        exact next


/-- the first loop -/
theorem l7_run {x : Int} {N : Nat} {l : List Stp} (hN : Int.tmod (IntKind.wrap .i64 x) 40 = N) (hN4 : N < 40) (hl : l.length < 100000) (hn : l.length < n + 3) :
    ∀ (d i m : Nat) (es : List FV) (c4 : Int), i + d = N → d < m → Has es W ((min i 24 : Nat) : Int) ((min i 24 : Nat) : Int) →
      noonbelllaw10_BookQuota.l7 (n + 3) [] m (lockA.L ++ noneA.L ++ [.int .u8 x, .list 19 (l.map Stp.fv)] ++ bkL c1 c2 c3 es c4 ++ [.int .i64 (i : Int)]) = some [.bool true] := by
  intro d
  induction d with
  | zero =>
    intro i m es c4 hi hm h
    obtain ⟨m, rfl⟩ : ∃ k, m = k + 1 := ⟨m - 1, by omega⟩
    obtain rfl : i = N := by omega
    have hq := asks_run (n := n + 2) (c1 := c1) (c2 := c2) (c3 := c3) (c4 := c4) h
    have hl19 := l19_run (n := n) (c1 := c1) (c2 := c2) (c3 := c3) (c4 := c4) (l := l) hN hl h l.length 0 (n + 3) (by omega) (by omega)
    unfold bkL W at hq
    unfold bkL at hl19
    unfold bkL lockA noneA Ask.L
    simp only [List.cons_append, List.nil_append] at hq hl19 ⊢
    rw [noonbelllaw10_BookQuota.l7_eq, hN, show decide ((i : Int) < (i : Int)) = false from decide_eq_false (by omega), cond_false, hq, Option.bind_some]
    simp only [List.getElem?_cons_zero, List.getElem?_cons_succ]
    repeat (first | rw [Option.bind_some] | rw [asLst_list] | rw [asInt_int] | rw [asStr_str] | rw [asBool_bool])
    exact hl19
  | succ d ih =>
    intro i m es c4 hi hm h
    obtain ⟨m, rfl⟩ : ∃ k, m = k + 1 := ⟨m - 1, by omega⟩
    have hi1 : decide ((i : Int) < (N : Int)) = true := decide_eq_true (by omega)
    by_cases h24 : (i : Int) ≥ 24
    · have hmin : min i 24 = 24 := by omega
      rw [hmin] at h
      have next := ih (i + 1) m es c4 (by omega) (by omega) (by rw [show min (i + 1) 24 = 24 by omega]; exact h)
      have hq1 := add_quota (n := n) (c1 := c1) (c2 := c2) (c3 := c3) (c4 := c4) (a := noneA) h (by decide) (by decide)
      have hq2 := add_quota (n := n) (c1 := c1) (c2 := c2) (c3 := c3) (c4 := c4) (a := lockA) h (by decide) (by decide)
      have hq3 := asks_run (n := n + 2) (c1 := c1) (c2 := c2) (c3 := c3) (c4 := c4) h
      simp only [bkL, W, lockA, noneA, Ask.L, List.cons_append, List.nil_append] at hq1 hq2 hq3 next ⊢
      rw [noonbelllaw10_BookQuota.l7_eq, hN, hi1, cond_true, decide_eq_true h24, cond_true, cond_true, hq1, Option.bind_some]
      simp only [List.getElem?_cons_zero, List.getElem?_cons_succ]
      repeat (first | rw [Option.bind_some] | rw [asLst_list] | rw [asInt_int] | rw [asStr_str] | rw [asBool_bool])
      rw [show ((101 : Int) != 101) = false from rfl, cond_false, hq2, Option.bind_some]
      simp only [List.getElem?_cons_zero, List.getElem?_cons_succ]
      repeat (first | rw [Option.bind_some] | rw [asLst_list] | rw [asInt_int] | rw [asStr_str] | rw [asBool_bool])
      rw [show ((101 : Int) != 101) = false from rfl, cond_false, hq3, Option.bind_some]
      simp only [List.getElem?_cons_zero, List.getElem?_cons_succ]
      repeat (first | rw [Option.bind_some] | rw [asLst_list] | rw [asInt_int] | rw [asStr_str] | rw [asBool_bool])
      rw [wrap_succ (by omega), mins, show min (i + 1) 24 = 24 by omega, show (((24 : Nat) : Int) != ((24 : Nat) : Int)) = false from rfl, cond_false]
      exact next
    · have hmin : min i 24 = i := by omega
      rw [hmin] at h
      obtain ⟨es', c4', hq2, h'⟩ := add_lock (n := n) (c1 := c1) (c2 := c2) (c3 := c3) (c4 := c4) (a := lockA) h (by omega) (by omega) rfl rfl
      have hq1 := add_none (n := n) (c1 := c1) (c2 := c2) (c3 := c3) (c4 := c4) (a := noneA) h (by omega) rfl
      rw [show (i : Int) + 1 = ((i + 1 : Nat) : Int) by omega] at h'
      have next := ih (i + 1) m es' c4' (by omega) (by omega) (by rw [show min (i + 1) 24 = i + 1 by omega]; exact h')
      have hq3 := asks_run (n := n + 2) (c1 := c1) (c2 := c2) (c3 := c3) (c4 := c4') h'
      simp only [bkL, W, lockA, noneA, Ask.L, List.cons_append, List.nil_append] at hq1 hq2 hq3 next ⊢
      rw [noonbelllaw10_BookQuota.l7_eq, hN, hi1, cond_true, decide_eq_false h24, cond_false, cond_false, hq1, Option.bind_some]
      simp only [List.getElem?_cons_zero, List.getElem?_cons_succ]
      repeat (first | rw [Option.bind_some] | rw [asLst_list] | rw [asInt_int] | rw [asStr_str] | rw [asBool_bool])
      rw [show ((102 : Int) != 102) = false from rfl, cond_false, hq2, Option.bind_some]
      simp only [List.getElem?_cons_zero, List.getElem?_cons_succ]
      repeat (first | rw [Option.bind_some] | rw [asLst_list] | rw [asInt_int] | rw [asStr_str] | rw [asBool_bool])
      rw [show ((0 : Int) != 0) = false from rfl, cond_false, hq3, Option.bind_some]
      simp only [List.getElem?_cons_zero, List.getElem?_cons_succ]
      repeat (first | rw [Option.bind_some] | rw [asLst_list] | rw [asInt_int] | rw [asStr_str] | rw [asBool_bool])
      rw [wrap_succ (by omega), mins, show min (i + 1) 24 = i + 1 by omega, bne_self_eq_false, cond_false]
      exact next

theorem heavy_run {l : List Stp} (hl : l.length < 9223372036854775807) : ∀ (d i m : Nat) (x : Int), i + d = l.length → d < m → ∃ r, noonbelllaw10_heavy.l3 n [] m [.list 19 (l.map Stp.fv), .int .i64 x, .int .i64 (i : Int)] = some [.bool r] ∧ (r = false → l.length ≤ 256) := by
  intro d
  have fin : ∀ x : Int, ∃ r, (bif (decide (x > 4096)) then some [FV.bool true] else some [FV.bool (decide ((l.length : Int) > 256))]) = some [FV.bool r] ∧ (r = false → l.length ≤ 256) := by
    intro x
    cases decide (x > 4096) with
    | true => exact ⟨true, rfl, by simp⟩
    | false => exact ⟨_, rfl, fun h => by have := of_decide_eq_false h; omega⟩
  induction d with
  | zero =>
    intro i m x hi hm
    obtain ⟨m, rfl⟩ : ∃ k, m = k + 1 := ⟨m - 1, by omega⟩
    rw [noonbelllaw10_heavy.l3_eq, List.length_map, show decide ((i : Int) < (l.length : Int)) = false from decide_eq_false (by omega), cond_false]
    exact fin x
  | succ d ih =>
    intro i m x hi hm
    obtain ⟨m, rfl⟩ : ∃ k, m = k + 1 := ⟨m - 1, by omega⟩
    rw [noonbelllaw10_heavy.l3_eq, List.length_map, show decide ((i : Int) < (l.length : Int)) = true from decide_eq_true (by omega), cond_true]
    cases hx : decide (x ≤ 4096) with
    | false => rw [cond_false]; exact fin x
    | true =>
      have hlt : i < l.length := by omega
      have hel : ∀ c, at' (l.map Stp.fv) i c = (Stp.fv l[i]).cells[c]? := fun c => by rw [at_map, List.getElem?_eq_getElem hlt]; rfl
      generalize hs : l[i] = s at hel
      simp only [cond_true, ix_nat hlt, Option.bind_some, hel, Stp.fv, Ask.L, FV.cells, List.getElem?_cons_zero, List.getElem?_cons_succ, asInt_int, asStr_str, asBool_bool, asLst_list]
      rw [wrap_succ (by omega)]
      exact ih (i + 1) m _ (by omega) (by omega)

end

theorem quota_pure (L : List FV) (h : All2 Fits [.int .u8, .lst true 192 stpShp] L) : ∃ n, evF En n 5 L = some [.bool true] := by
  obtain ⟨x1, r1, rfl, h1, h⟩ := h.cons_inv
  obtain ⟨x2, r2, rfl, h2, h⟩ := h.cons_inv
  obtain rfl := h.nil_inv
  obtain ⟨l, rfl, hlen, _⟩ := h2.lst_map Stp.fv (R := fun _ => True) fun cs hcs => stp_of hcs
  obtain ⟨x, rfl, hx⟩ := h1.int_inv
  have u1 : IntKind.u8.min = 0 := by decide
  have u2 : IntKind.u8.max = 255 := by decide
  obtain ⟨N, hN, hN4⟩ := tmod40 (x := x) (by have := hx.1; omega) (by have := hx.2; omega)
  obtain ⟨r, hr, hr2⟩ := heavy_run (n := l.length + 1000) (l := l) (by omega) l.length 0 (l.length + 1000) (l.length : Int) (by omega) (by omega)
  refine ⟨l.length + 1002, ?_⟩
  show evF En (l.length + 1001 + 1) 5 [.int .u8 x, .list 19 (l.map Stp.fv)] = some [.bool true]
  rw [noonbelllaw10_BookQuota_eq, noonbelllaw10_heavy_eq, List.length_map]
  rw [show ((0 : Nat) : Int) = 0 from rfl] at hr
  rw [hr, Option.bind_some]
  simp only [List.getElem?_cons_zero]
  repeat (first | rw [Option.bind_some] | rw [asLst_list] | rw [asInt_int] | rw [asStr_str] | rw [asBool_bool])
  cases r with
  | true => rfl
  | false =>
    rw [cond_false, book_New_eq, Option.bind_some]
    simp only [List.getElem?_cons_zero, List.getElem?_cons_succ]
    repeat (first | rw [Option.bind_some] | rw [asLst_list] | rw [asInt_int] | rw [asStr_str] | rw [asBool_bool])
    have := l7_run (n := l.length + 998) (c1 := 0) (c2 := 0) (c3 := 0) (l := l) hN hN4 (by have := hr2 rfl; omega) (by omega) N 0 (l.length + 998 + 3) [] 0 (by omega) (by omega) (Has.nil W)
    simp only [bkL, lockA, noneA, Ask.L, List.cons_append, List.nil_append] at this
    exact this

end Rf
