/- The book, by its maps: what May and Add answer. -/
import Derived.Test.YtecinekkgnhhoaaEqBook
import Derived.Test.YtecinekkgnhhoaaRf29
set_option linter.unusedSimpArgs false
set_option linter.unusedVariables false
set_option maxHeartbeats 1000000
namespace Rf
open Go

/-- An ask, by its fields. -/
structure Ask where
  kind : Int
  cents : Int
  seq : Int
  sw : ByteArray
  s1 : Int
  s2 : Int
  s3 : Int
  sb : Bool
  s5 : Int
  s6 : Int
  bw : ByteArray
  b1 : Int
  b2 : Int
  bb : Bool
  b4 : Int
  bq : List FV
  b6 : Int
  b7 : Int

def Ask.L (a : Ask) : List FV := [.int .i64 a.kind, .int .i64 a.cents, .int .i64 a.seq, .str a.sw, .int .i64 a.s1, .int .i64 a.s2, .int .i64 a.s3, .bool a.sb, .int .i64 a.s5, .int .i64 a.s6,
  .str a.bw, .int .i64 a.b1, .int .i64 a.b2, .bool a.bb, .int .i64 a.b4, .list 1 a.bq, .int .i64 a.b6, .int .i64 a.b7]

/-! ### what stands in the maps -/

structure Acc where
  lk : Int
  ow : Int
  ak : Int
  st : Int
  bl : Int

def Acc.fv (a : Acc) : FV := .agg [.int .i64 a.lk, .int .i64 a.ow, .int .i64 a.ak, .int .i64 a.st, .int .i64 a.bl]
def accOf : FV → Acc
  | .agg [.int .i64 a, .int .i64 b, .int .i64 c, .int .i64 d, .int .i64 e] => ⟨a, b, c, d, e⟩
  | _ => ⟨0, 0, 0, 0, 0⟩
def accOk : FV → Bool
  | .agg [.int .i64 _, .int .i64 _, .int .i64 _, .int .i64 _, .int .i64 _] => true
  | _ => false
theorem acc_of {x : FV} (h : accOk x = true) : x = (accOf x).fv := by
  unfold accOk at h
  split at h
  · rfl
  · cases h

structure StF where
  s : ByteArray
  a : Int
  b : Int
  c : Int
  d : Bool
  e : Int
  f : Int
def StF.fv (x : StF) : FV := .agg [.str x.s, .int .i64 x.a, .int .i64 x.b, .int .i64 x.c, .bool x.d, .int .i64 x.e, .int .i64 x.f]
def stOf : FV → StF
  | .agg [.str s, .int .i64 a, .int .i64 b, .int .i64 c, .bool d, .int .i64 e, .int .i64 f] => ⟨s, a, b, c, d, e, f⟩
  | _ => ⟨⟨#[]⟩, 0, 0, 0, false, 0, 0⟩
def stOk : FV → Bool
  | .agg [.str _, .int .i64 _, .int .i64 _, .int .i64 _, .bool _, .int .i64 _, .int .i64 _] => true
  | _ => false
theorem st_of {x : FV} (h : stOk x = true) : x = (stOf x).fv := by
  unfold stOk at h
  split at h
  · rfl
  · cases h

structure BlF where
  w : ByteArray
  a : Int
  b : Int
  c : Bool
  d : Int
  q : List FV
  e : Int
  f : Int
def BlF.fv (x : BlF) : FV := .agg [.str x.w, .int .i64 x.a, .int .i64 x.b, .bool x.c, .int .i64 x.d, .list 1 x.q, .int .i64 x.e, .int .i64 x.f]
def blOf : FV → BlF
  | .agg [.str s, .int .i64 a, .int .i64 b, .bool c, .int .i64 d, .list 1 q, .int .i64 e, .int .i64 f] => ⟨s, a, b, c, d, q, e, f⟩
  | _ => ⟨⟨#[]⟩, 0, 0, false, 0, [], 0, 0⟩
def blOk : FV → Bool
  | .agg [.str _, .int .i64 _, .int .i64 _, .bool _, .int .i64 _, .list 1 _, .int .i64 _, .int .i64 _] => true
  | _ => false
theorem bl_of {x : FV} (h : blOk x = true) : x = (blOf x).fv := by
  unfold blOk at h
  split at h
  · rfl
  · cases h

def inOf : FV → Int
  | .int .i64 n => n
  | _ => 0
def inOk : FV → Bool
  | .int .i64 _ => true
  | _ => false
theorem in_of {x : FV} (h : inOk x = true) : x = .int .i64 (inOf x) := by
  unfold inOk at h
  split at h
  · rfl
  · cases h

def allV (p : FV → Bool) (es : List FV) : Prop := ∀ e, e ∈ es → p (entVal e) = true

theorem allV.get {p : FV → Bool} {z : FV} (hz : p z = true) (k : FV) : ∀ {es : List FV}, allV p es → p (mgetD es k z) = true
  | [], _ => hz
  | e :: es, h => by
    simp only [mgetD]
    cases keq k (entKey e) with
    | true => exact h e (by simp)
    | false => exact allV.get hz k (es := es) fun x hx => h x (List.mem_cons_of_mem _ hx)

theorem allV.put {p : FV → Bool} {k v : FV} {c : Int} (hv : p v = true) : ∀ {es : List FV}, allV p es → allV p (mput es k v c)
  | [], _ => fun e he => by simp [mput] at he; subst he; exact hv
  | x :: es, h => by
    simp only [mput]
    cases keq k (entKey x) with
    | true =>
      intro e he
      rcases List.mem_cons.1 he with rfl | he
      · exact hv
      · exact h e (List.mem_cons_of_mem _ he)
    | false =>
      intro e he
      rcases List.mem_cons.1 he with rfl | he
      · exact h _ (by simp)
      · exact allV.put hv (fun y hy => h y (List.mem_cons_of_mem _ hy)) e he

theorem allV.del {p : FV → Bool} {k : FV} : ∀ {es : List FV}, allV p es → allV p (mdel es k)
  | [], h => h
  | x :: es, h => by
    simp only [mdel]
    cases keq k (entKey x) with
    | true => exact fun e he => h e (List.mem_cons_of_mem _ he)
    | false =>
      intro e he
      rcases List.mem_cons.1 he with rfl | he
      · exact h _ (by simp)
      · exact allV.del (fun y hy => h y (List.mem_cons_of_mem _ hy)) e he

/-- a book -/
structure Bk where
  e0 : List FV
  c0 : Int
  e1 : List FV
  c1 : Int
  e2 : List FV
  c2 : Int
  e3 : List FV
  c3 : Int

def Bk.L (B : Bk) : List FV := [.list 3 B.e0, .int .i64 B.c0, .list 3 B.e1, .int .i64 B.c1, .list 3 B.e2, .int .i64 B.c2, .list 3 B.e3, .int .i64 B.c3]

structure Bk.Ok (B : Bk) : Prop where
  v0 : allV stOk B.e0
  v1 : allV blOk B.e1
  v2 : allV inOk B.e2
  v3 : allV accOk B.e3
  w2 : MWf B.e2 B.c2

/-- the name of an order -/
def nm (w : ByteArray) (n : Int) : FV := .agg [.str w, .int .i64 n]

def zSt : FV := .agg [.str { data := #[] }, .int .i64 0, .int .i64 0, .int .i64 0, .bool false, .int .i64 0, .int .i64 0]
def zBl : FV := .agg [.str { data := #[] }, .int .i64 0, .int .i64 0, .bool false, .int .i64 0, .list 1 [], .int .i64 0, .int .i64 0]
def zAc : FV := .agg [.int .i64 0, .int .i64 0, .int .i64 0, .int .i64 0, .int .i64 0]

def Bk.acc (B : Bk) (w : ByteArray) : Acc := accOf (mgetD B.e3 (.str w) zAc)
def Bk.step (B : Bk) (w : ByteArray) (n : Int) : StF := stOf (mgetD B.e0 (nm w n) zSt)
def Bk.block (B : Bk) (w : ByteArray) (n : Int) : BlF := blOf (mgetD B.e1 (nm w n) zBl)
def Bk.used (B : Bk) (w : ByteArray) (n : Int) : Int := inOf (mgetD B.e2 (nm w n) (.int .i64 0))

section
variable {B : Bk} (h : B.Ok) (w : ByteArray) (n : Int)
include h
theorem Bk.Ok.acc : mgetD B.e3 (.str w) (.agg [.int .i64 0, .int .i64 0, .int .i64 0, .int .i64 0, .int .i64 0]) = (B.acc w).fv := acc_of (h.v3.get (p := accOk) (z := zAc) rfl (.str w))
theorem Bk.Ok.step : mgetD B.e0 (.agg [.str w, .int .i64 n]) (.agg [.str { data := #[] }, .int .i64 0, .int .i64 0, .int .i64 0, .bool false, .int .i64 0, .int .i64 0]) = (B.step w n).fv := st_of (h.v0.get (p := stOk) (z := zSt) rfl (nm w n))
theorem Bk.Ok.block : mgetD B.e1 (.agg [.str w, .int .i64 n]) (.agg [.str { data := #[] }, .int .i64 0, .int .i64 0, .bool false, .int .i64 0, .list 1 [], .int .i64 0, .int .i64 0]) = (B.block w n).fv := bl_of (h.v1.get (p := blOk) (z := zBl) rfl (nm w n))
theorem Bk.Ok.used : mgetD B.e2 (.agg [.str w, .int .i64 n]) (.int .i64 0) = .int .i64 (B.used w n) := in_of (h.v2.get (p := inOk) (z := .int .i64 0) rfl (nm w n))
end

/-- the number of the order that is asked for -/
def Ask.no (a : Ask) : Int := if a.kind = 2 then a.s1 else if a.kind = 3 then a.b1 else a.seq

section
variable {n : Nat} {B : Bk} {w : ByteArray} {a : Ask}

theorem named_run : evF En (n + 1) 43 (.str w :: a.L) = some [.str w, .int .i64 a.no] := by
  unfold Ask.L Ask.no
  rw [book_named_eq]
  by_cases h2 : a.kind = 2
  · rw [if_pos h2, h2]; rfl
  · by_cases h3 : a.kind = 3
    · rw [if_neg h2, if_pos h3, h3]; rfl
    · rw [if_neg h2, if_neg h3, show (a.kind == 2) = false from beq_eq_false_iff_ne.2 h2, show (a.kind == 3) = false from beq_eq_false_iff_ne.2 h3]; rfl

/-- May of a lock -/
theorem may_lock (h : B.Ok) (hk : a.kind = 1) : evF En (n + 2) 42 (B.L ++ .str w :: a.L) = some (B.L ++ [.int .i64 (if (B.acc w).ak ≥ 24 then 101 else if a.cents < 1 ∨ a.cents > 1000000000 then 1 else 0)]) := by
  have hm := named_run (n := n) (w := w) (a := a)
  unfold Ask.L at hm
  unfold Bk.L Ask.L
  simp only [List.cons_append, List.nil_append]
  rw [book_Book_May_eq, hm, h.acc]
  simp only [at_one, FV.cells, Acc.fv, List.getElem?_cons_zero, List.getElem?_cons_succ, asInt_int, asStr_str, Option.bind_some]
  rw [h.step, h.block]
  simp only [at_one, FV.cells, StF.fv, BlF.fv, List.getElem?_cons_zero, List.getElem?_cons_succ, asInt_int, asStr_str, asBool_bool, asLst_list, Option.bind_some]
  rw [hk, show decide ((1 : Int) < 1) = false from rfl, show decide ((1 : Int) > 4) = false from rfl, show ((1 : Int) == 1) = true from rfl]
  simp only [cond_false, cond_true]
  by_cases h1 : (B.acc w).ak ≥ 24
  · rw [if_pos h1, decide_eq_true h1, cond_true]
  · rw [if_neg h1, decide_eq_false h1, cond_false]
    by_cases h2 : a.cents < 1
    · rw [if_pos (.inl h2), decide_eq_true h2, cond_true]
    · rw [decide_eq_false h2, cond_false]
      by_cases h3 : a.cents > 1000000000
      · rw [if_pos (.inr h3), decide_eq_true h3, cond_true]
      · rw [if_neg (by omega), decide_eq_false h3, cond_false]

/-- what an ask may cost -/
def Ask.owes (a : Ask) : Int := IntKind.wrap .i64 ((if (if a.sb then a.s6 else IntKind.wrap .i64 (0 - a.s6)) < 0 then 0 else (if a.sb then a.s6 else IntKind.wrap .i64 (0 - a.s6))) * a.s5)

theorem owes_step (hk : a.kind = 2) : evF En (n + 1) 45 a.L = some [.int .i64 a.owes] := by
  unfold Ask.L Ask.owes
  rw [order_Owes_eq, hk, show ((2 : Int) == 2) = true from rfl, cond_true]
  cases a.sb <;> rfl

/-- May of a step -/
theorem may_step (h : B.Ok) (hk : a.kind = 2) : evF En (n + 2) 42 (B.L ++ .str w :: a.L) = some (B.L ++ [.int .i64 (if (B.acc w).ak ≥ 24 then 101 else if B.used w a.s1 > 0 then 100 else if (B.acc w).st ≥ 8 then 101
    else if IntKind.wrap .i64 ((B.acc w).ow + a.owes) > (B.acc w).lk then 221 else 0)]) := by
  have hm := named_run (n := n) (w := w) (a := a)
  rw [show a.no = a.s1 by simp [Ask.no, hk]] at hm
  have ho := owes_step (n := n) hk
  unfold Ask.L at hm ho
  unfold Bk.L Ask.L
  simp only [List.cons_append, List.nil_append]
  rw [book_Book_May_eq, hm, h.acc]
  simp only [at_one, FV.cells, Acc.fv, List.getElem?_cons_zero, List.getElem?_cons_succ, asInt_int, asStr_str, Option.bind_some]
  rw [h.step, h.block]
  simp only [at_one, FV.cells, StF.fv, BlF.fv, List.getElem?_cons_zero, List.getElem?_cons_succ, asInt_int, asStr_str, asBool_bool, asLst_list, Option.bind_some]
  rw [hk] at ho ⊢
  rw [show decide ((2 : Int) < 1) = false from rfl, show decide ((2 : Int) > 4) = false from rfl, show ((2 : Int) == 1) = false from rfl, show ((2 : Int) == 4) = false from rfl, show ((2 : Int) == 2) = true from rfl, show ((2 : Int) == 3) = false from rfl, h.used]
  simp only [cond_false, cond_true, FV.cells, List.getElem?_cons_zero, asInt_int, Option.bind_some, ho]
  by_cases h1 : (B.acc w).ak ≥ 24
  · rw [if_pos h1, decide_eq_true h1, cond_true]
  · rw [if_neg h1, decide_eq_false h1, cond_false]
    by_cases h2 : B.used w a.s1 > 0
    · rw [if_pos h2, decide_eq_true h2, cond_true]
    · rw [if_neg h2, decide_eq_false h2, cond_false]
      by_cases h3 : (B.acc w).st ≥ 8
      · rw [if_pos h3, decide_eq_true h3, cond_true]
      · rw [if_neg h3, decide_eq_false h3, cond_false]
        by_cases h4 : IntKind.wrap .i64 ((B.acc w).ow + a.owes) > (B.acc w).lk
        · rw [if_pos h4, decide_eq_true h4, cond_true]
        · rw [if_neg h4, decide_eq_false h4, cond_false]

/-- with this account -/
def Bk.setAcc (B : Bk) (w : ByteArray) (c : Acc) : Bk := { B with e3 := mput B.e3 (.str w) c.fv B.c3, c3 := mclk B.e3 (.str w) B.c3 }

theorem Bk.Ok.setAcc (h : B.Ok) (c : Acc) : (B.setAcc w c).Ok := ⟨h.v0, h.v1, h.v2, allV.put rfl h.v3, h.w2⟩

theorem add_no {e : Int} (he : e ≠ 0) (hm : evF En n 42 (B.L ++ .str w :: a.L) = some (B.L ++ [.int .i64 e])) : evF En (n + 1) 20 (B.L ++ .str w :: a.L) = some (B.L ++ [.int .i64 e]) := by
  unfold Bk.L Ask.L at hm ⊢
  simp only [List.cons_append, List.nil_append] at hm ⊢
  rw [book_Book_Add_eq, hm, Option.bind_some]
  simp only [List.getElem?_cons_zero, List.getElem?_cons_succ]
  repeat (first | rw [Option.bind_some] | rw [asLst_list] | rw [asInt_int])
  rw [show (e != 0) = true by simp [he], cond_true]

/-- Add of a lock that May lets in -/
theorem add_lock (h : B.Ok) (hk : a.kind = 1) (hm : evF En (n + 1) 42 (B.L ++ .str w :: a.L) = some (B.L ++ [.int .i64 0])) :
    evF En (n + 2) 20 (B.L ++ .str w :: a.L) = some ((B.setAcc w { B.acc w with lk := IntKind.wrap .i64 ((B.acc w).lk + a.cents), ak := IntKind.wrap .i64 ((B.acc w).ak + 1) }).L ++ [.int .i64 0]) := by
  have hn := named_run (n := n) (w := w) (a := a)
  unfold Bk.L Ask.L at hm
  unfold Ask.L at hn
  unfold Bk.L Ask.L
  simp only [List.cons_append, List.nil_append] at hm ⊢
  rw [book_Book_Add_eq, hm, Option.bind_some]
  simp only [List.getElem?_cons_zero, List.getElem?_cons_succ]
  repeat (first | rw [Option.bind_some] | rw [asLst_list] | rw [asInt_int])
  rw [show ((0 : Int) != 0) = false from rfl, cond_false, h.acc]
  simp only [at_one, Acc.fv, FV.cells, List.getElem?_cons_zero, List.getElem?_cons_succ]
  repeat (first | rw [Option.bind_some] | rw [asLst_list] | rw [asInt_int])
  rw [hn, Option.bind_some]
  simp only [List.getElem?_cons_zero, List.getElem?_cons_succ]
  repeat (first | rw [Option.bind_some] | rw [asStr_str] | rw [asInt_int])
  rw [hk]
  rw [show ((1 : Int) == 1) = true from rfl, cond_true, show ((1 : Int) == 2) = false from rfl, cond_false, show ((1 : Int) == 3) = false from rfl, cond_false]
  rfl

/-- with this step -/
def Bk.addStep (B : Bk) (w : ByteArray) (a : Ask) : Bk :=
  ({ B with e0 := mput B.e0 (nm w a.s1) (.agg [.str w, .int .i64 a.s1, .int .i64 a.s2, .int .i64 a.s3, .bool a.sb, .int .i64 a.s5, .int .i64 a.s6]) B.c0, c0 := mclk B.e0 (nm w a.s1) B.c0,
            e2 := mput B.e2 (nm w a.s1) (.int .i64 (IntKind.wrap .i64 (B.used w a.s1 + 1))) B.c2, c2 := mclk B.e2 (nm w a.s1) B.c2 } : Bk).setAcc w
    { B.acc w with ow := IntKind.wrap .i64 ((B.acc w).ow + a.owes), ak := IntKind.wrap .i64 ((B.acc w).ak + 1), st := IntKind.wrap .i64 ((B.acc w).st + 1) }

theorem Bk.Ok.addStep (h : B.Ok) : (B.addStep w a).Ok := ⟨allV.put rfl h.v0, h.v1, allV.put rfl h.v2, allV.put rfl h.v3, h.w2.put⟩

theorem add_step (h : B.Ok) (hk : a.kind = 2) (hm : evF En (n + 1) 42 (B.L ++ .str w :: a.L) = some (B.L ++ [.int .i64 0])) :
    evF En (n + 2) 20 (B.L ++ .str w :: a.L) = some ((B.addStep w a).L ++ [.int .i64 0]) := by
  have hn := named_run (n := n) (w := w) (a := a)
  rw [show a.no = a.s1 by simp [Ask.no, hk]] at hn
  have ho := owes_step (n := n) (a := { a with sw := w }) hk
  unfold Bk.L Ask.L at hm
  unfold Ask.L at hn ho
  unfold Bk.L Ask.L
  simp only [List.cons_append, List.nil_append] at hm ⊢
  rw [book_Book_Add_eq, hm, Option.bind_some]
  simp only [List.getElem?_cons_zero, List.getElem?_cons_succ]
  repeat (first | rw [Option.bind_some] | rw [asLst_list] | rw [asInt_int])
  rw [show ((0 : Int) != 0) = false from rfl, cond_false, h.acc]
  simp only [at_one, Acc.fv, FV.cells, List.getElem?_cons_zero, List.getElem?_cons_succ]
  repeat (first | rw [Option.bind_some] | rw [asLst_list] | rw [asInt_int])
  rw [hn, Option.bind_some]
  simp only [List.getElem?_cons_zero, List.getElem?_cons_succ]
  repeat (first | rw [Option.bind_some] | rw [asStr_str] | rw [asInt_int])
  rw [hk] at ho ⊢
  rw [show ((2 : Int) == 1) = false from rfl, cond_false, show ((2 : Int) == 2) = true from rfl, cond_true, cond_true, h.used]
  simp only [FV.cells, List.getElem?_cons_zero]
  rw [asInt_int, Option.bind_some, mhasB_ment, cond_true, ho, Option.bind_some]
  simp only [List.getElem?_cons_zero]
  rw [asInt_int, Option.bind_some, msetB_ment _ _ _ h.w2]
  rfl

theorem asks_run (h : B.Ok) : evF En (n + 1) 21 (B.L ++ [.str w]) = some (B.L ++ [.int .i64 (B.acc w).ak]) := by
  unfold Bk.L
  simp only [List.cons_append, List.nil_append]
  rw [book_Book_Asks_eq, h.acc]
  rfl
theorem locked_run (h : B.Ok) : evF En (n + 1) 22 (B.L ++ [.str w]) = some (B.L ++ [.int .i64 (B.acc w).lk]) := by
  unfold Bk.L
  simp only [List.cons_append, List.nil_append]
  rw [book_Book_Locked_eq, h.acc]
  rfl
theorem owes_run (h : B.Ok) : evF En (n + 1) 23 (B.L ++ [.str w]) = some (B.L ++ [.int .i64 (B.acc w).ow]) := by
  unfold Bk.L
  simp only [List.cons_append, List.nil_append]
  rw [book_Book_Owes_eq, h.acc]
  rfl

theorem keq_str (s t : ByteArray) : keq (.str s) (.str t) = decide (s = t) := by
  simp [keq, FV.cells, keqs, keq1, toList_eq]
theorem keq_nm (s t : ByteArray) (m k : Int) : keq (nm s m) (nm t k) = (decide (s = t) && decide (m = k)) := by
  simp [keq, nm, FV.cells, keqs, keq1, toList_eq]
  rw [Bool.eq_iff_iff]; simp

theorem acc_setAcc (c : Acc) (v : ByteArray) : (B.setAcc w c).acc v = if v = w then c else B.acc v := by
  unfold Bk.acc Bk.setAcc
  simp only
  rw [mgetD_mput, keq_str]
  by_cases h : v = w
  · rw [if_pos h, decide_eq_true h]; rfl
  · rw [if_neg h, decide_eq_false h]; rfl

def Bk.empty : Bk := ⟨[], 0, [], 0, [], 0, [], 0⟩
theorem allV_nil (p : FV → Bool) : allV p [] := fun e h => by cases h
theorem empty_ok : Bk.empty.Ok := ⟨allV_nil _, allV_nil _, allV_nil _, allV_nil _, trivial⟩
theorem new_run : evF En (n + 1) 19 [] = some Bk.empty.L := book_New_eq n

theorem steps_run {B : Bk} (hl : B.e0.length ≤ 1) (ho : (B.e0.map entVal).all stepOk = true) : evF En (n + 1) 24 B.L = some (B.L ++ [.list 7 (B.e0.map entVal)]) := by
  show stepsExt B.L = _
  unfold Bk.L stepsExt
  simp only
  rw [if_pos ⟨hl, ho⟩]
  rfl

end
end Rf
