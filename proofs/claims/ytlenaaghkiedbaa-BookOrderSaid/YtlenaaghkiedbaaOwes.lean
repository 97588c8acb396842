import Derived.Test.YtlenaaghkiedbaaEqBook
import Derived.Test.YtlenaaghkiedbaaRf29
import Derived.Test.YtlenaaghkiedbaaExtOk2

section
/- The book, by its maps: what May and Add answer. -/
set_option linter.unusedSimpArgs false
set_option linter.unusedVariables false
set_option maxHeartbeats 1000000
namespace Rf
open Go

/-- An ask, by its fields. -/
structure Ask where
  kind : Int
  cents : Int
  seq : Int
  sw : ByteArray
  s1 : Int
  s2 : Int
  s3 : Int
  sb : Bool
  s5 : Int
  s6 : Int
  bw : ByteArray
  b1 : Int
  b2 : Int
  bb : Bool
  b4 : Int
  bq : List FV
  b6 : Int
  b7 : Int

def Ask.L (a : Ask) : List FV := [.int .i64 a.kind, .int .i64 a.cents, .int .i64 a.seq, .str a.sw, .int .i64 a.s1, .int .i64 a.s2, .int .i64 a.s3, .bool a.sb, .int .i64 a.s5, .int .i64 a.s6,
  .str a.bw, .int .i64 a.b1, .int .i64 a.b2, .bool a.bb, .int .i64 a.b4, .list 1 a.bq, .int .i64 a.b6, .int .i64 a.b7]

/-! ### what stands in the maps -/

structure Acc where
  lk : Int
  ow : Int
  ak : Int
  st : Int
  bl : Int

def Acc.fv (a : Acc) : FV := .agg [.int .i64 a.lk, .int .i64 a.ow, .int .i64 a.ak, .int .i64 a.st, .int .i64 a.bl]
def accOf : FV → Acc
  | .agg [.int .i64 a, .int .i64 b, .int .i64 c, .int .i64 d, .int .i64 e] => ⟨a, b, c, d, e⟩
  | _ => ⟨0, 0, 0, 0, 0⟩
def accOk : FV → Bool
  | .agg [.int .i64 _, .int .i64 _, .int .i64 _, .int .i64 _, .int .i64 _] => true
  | _ => false
theorem acc_of {x : FV} (h : accOk x = true) : x = (accOf x).fv := by
  unfold accOk at h
  split at h
  · rfl
  · cases h

structure StF where
  s : ByteArray
  a : Int
  b : Int
  c : Int
  d : Bool
  e : Int
  f : Int
def StF.fv (x : StF) : FV := .agg [.str x.s, .int .i64 x.a, .int .i64 x.b, .int .i64 x.c, .bool x.d, .int .i64 x.e, .int .i64 x.f]
def stOf : FV → StF
  | .agg [.str s, .int .i64 a, .int .i64 b, .int .i64 c, .bool d, .int .i64 e, .int .i64 f] => ⟨s, a, b, c, d, e, f⟩
  | _ => ⟨⟨#[]⟩, 0, 0, 0, false, 0, 0⟩
def stOk : FV → Bool
  | .agg [.str _, .int .i64 _, .int .i64 _, .int .i64 _, .bool _, .int .i64 _, .int .i64 _] => true
  | _ => false
theorem st_of {x : FV} (h : stOk x = true) : x = (stOf x).fv := by
  unfold stOk at h
  split at h
  · rfl
  · cases h

structure BlF where
  w : ByteArray
  a : Int
  b : Int
  c : Bool
  d : Int
  q : List FV
  e : Int
  f : Int
def BlF.fv (x : BlF) : FV := .agg [.str x.w, .int .i64 x.a, .int .i64 x.b, .bool x.c, .int .i64 x.d, .list 1 x.q, .int .i64 x.e, .int .i64 x.f]
def blOf : FV → BlF
  | .agg [.str s, .int .i64 a, .int .i64 b, .bool c, .int .i64 d, .list 1 q, .int .i64 e, .int .i64 f] => ⟨s, a, b, c, d, q, e, f⟩
  | _ => ⟨⟨#[]⟩, 0, 0, false, 0, [], 0, 0⟩
def blOk : FV → Bool
  | .agg [.str _, .int .i64 _, .int .i64 _, .bool _, .int .i64 _, .list 1 _, .int .i64 _, .int .i64 _] => true
  | _ => false
theorem bl_of {x : FV} (h : blOk x = true) : x = (blOf x).fv := by
  unfold blOk at h
  split at h
  · rfl
  · cases h

def inOf : FV → Int
  | .int .i64 n => n
  | _ => 0
def inOk : FV → Bool
  | .int .i64 _ => true
  | _ => false
theorem in_of {x : FV} (h : inOk x = true) : x = .int .i64 (inOf x) := by
  unfold inOk at h
  split at h
  · rfl
  · cases h

def allV (p : FV → Bool) (es : List FV) : Prop := ∀ e, e ∈ es → p (entVal e) = true

theorem allV.get {p : FV → Bool} {z : FV} (hz : p z = true) (k : FV) : ∀ {es : List FV}, allV p es → p (mgetD es k z) = true
  | [], _ => hz
  | e :: es, h => by
    simp only [mgetD]
    cases keq k (entKey e) with
    | true => exact h e (by simp)
    | false => exact allV.get hz k (es := es) fun x hx => h x (List.mem_cons_of_mem _ hx)

theorem allV.put {p : FV → Bool} {k v : FV} {c : Int} (hv : p v = true) : ∀ {es : List FV}, allV p es → allV p (mput es k v c)
  | [], _ => fun e he => by simp [mput] at he; subst he; exact hv
  | x :: es, h => by
    simp only [mput]
    cases keq k (entKey x) with
    | true =>
      intro e he
      rcases List.mem_cons.1 he with rfl | he
      · exact hv
      · exact h e (List.mem_cons_of_mem _ he)
    | false =>
      intro e he
      rcases List.mem_cons.1 he with rfl | he
      · exact h _ (by simp)
      · exact allV.put hv (fun y hy => h y (List.mem_cons_of_mem _ hy)) e he

theorem allV.del {p : FV → Bool} {k : FV} : ∀ {es : List FV}, allV p es → allV p (mdel es k)
  | [], h => h
  | x :: es, h => by
    simp only [mdel]
    cases keq k (entKey x) with
    | true => exact fun e he => h e (List.mem_cons_of_mem _ he)
    | false =>
      intro e he
      rcases List.mem_cons.1 he with rfl | he
      · exact h _ (by simp)
      · exact allV.del (fun y hy => h y (List.mem_cons_of_mem _ hy)) e he

/-- a book -/
structure Bk where
  e0 : List FV
  c0 : Int
  e1 : List FV
  c1 : Int
  e2 : List FV
  c2 : Int
  e3 : List FV
  c3 : Int

def Bk.L (B : Bk) : List FV := [.list 3 B.e0, .int .i64 B.c0, .list 3 B.e1, .int .i64 B.c1, .list 3 B.e2, .int .i64 B.c2, .list 3 B.e3, .int .i64 B.c3]

structure Bk.Ok (B : Bk) : Prop where
  v0 : allV stOk B.e0
  v1 : allV blOk B.e1
  v2 : allV inOk B.e2
  v3 : allV accOk B.e3
  w2 : MWf B.e2 B.c2

/-- the name of an order -/
def nm (w : ByteArray) (n : Int) : FV := .agg [.str w, .int .i64 n]

def zSt : FV := .agg [.str { data := #[] }, .int .i64 0, .int .i64 0, .int .i64 0, .bool false, .int .i64 0, .int .i64 0]
def zBl : FV := .agg [.str { data := #[] }, .int .i64 0, .int .i64 0, .bool false, .int .i64 0, .list 1 [], .int .i64 0, .int .i64 0]
def zAc : FV := .agg [.int .i64 0, .int .i64 0, .int .i64 0, .int .i64 0, .int .i64 0]

def Bk.acc (B : Bk) (w : ByteArray) : Acc := accOf (mgetD B.e3 (.str w) zAc)
def Bk.step (B : Bk) (w : ByteArray) (n : Int) : StF := stOf (mgetD B.e0 (nm w n) zSt)
def Bk.block (B : Bk) (w : ByteArray) (n : Int) : BlF := blOf (mgetD B.e1 (nm w n) zBl)
def Bk.used (B : Bk) (w : ByteArray) (n : Int) : Int := inOf (mgetD B.e2 (nm w n) (.int .i64 0))

section
variable {B : Bk} (h : B.Ok) (w : ByteArray) (n : Int)
include h
theorem Bk.Ok.acc : mgetD B.e3 (.str w) (.agg [.int .i64 0, .int .i64 0, .int .i64 0, .int .i64 0, .int .i64 0]) = (B.acc w).fv := acc_of (h.v3.get (p := accOk) (z := zAc) rfl (.str w))
theorem Bk.Ok.step : mgetD B.e0 (.agg [.str w, .int .i64 n]) (.agg [.str { data := #[] }, .int .i64 0, .int .i64 0, .int .i64 0, .bool false, .int .i64 0, .int .i64 0]) = (B.step w n).fv := st_of (h.v0.get (p := stOk) (z := zSt) rfl (nm w n))
theorem Bk.Ok.block : mgetD B.e1 (.agg [.str w, .int .i64 n]) (.agg [.str { data := #[] }, .int .i64 0, .int .i64 0, .bool false, .int .i64 0, .list 1 [], .int .i64 0, .int .i64 0]) = (B.block w n).fv := bl_of (h.v1.get (p := blOk) (z := zBl) rfl (nm w n))
theorem Bk.Ok.used : mgetD B.e2 (.agg [.str w, .int .i64 n]) (.int .i64 0) = .int .i64 (B.used w n) := in_of (h.v2.get (p := inOk) (z := .int .i64 0) rfl (nm w n))
end

/-- the number of the order that is asked for -/
def Ask.no (a : Ask) : Int := if a.kind = 2 then a.s1 else if a.kind = 3 then a.b1 else a.seq

section
variable {n : Nat} {B : Bk} {w : ByteArray} {a : Ask}

theorem named_run : evF En (n + 1) 43 (.str w :: a.L) = some [.str w, .int .i64 a.no] := by
  unfold Ask.L Ask.no
  rw [book_named_eq]
  by_cases h2 : a.kind = 2
  · rw [if_pos h2, h2]; rfl
  · by_cases h3 : a.kind = 3
    · rw [if_neg h2, if_pos h3, h3]; rfl
    · rw [if_neg h2, if_neg h3, show (a.kind == 2) = false from beq_eq_false_iff_ne.2 h2, show (a.kind == 3) = false from beq_eq_false_iff_ne.2 h3]; rfl

/-- May of a lock -/
theorem may_lock (h : B.Ok) (hk : a.kind = 1) : evF En (n + 2) 42 (B.L ++ .str w :: a.L) = some (B.L ++ [.int .i64 (if (B.acc w).ak ≥ 24 then 101 else if a.cents < 1 ∨ a.cents > 1000000000 then 1 else 0)]) := by
  have hm := named_run (n := n) (w := w) (a := a)
  unfold Ask.L at hm
  unfold Bk.L Ask.L
  simp only [List.cons_append, List.nil_append]
  rw [book_Book_May_eq, hm, h.acc]
  simp only [at_one, FV.cells, Acc.fv, List.getElem?_cons_zero, List.getElem?_cons_succ, asInt_int, asStr_str, Option.bind_some]
  rw [h.step, h.block]
  simp only [at_one, FV.cells, StF.fv, BlF.fv, List.getElem?_cons_zero, List.getElem?_cons_succ, asInt_int, asStr_str, asBool_bool, asLst_list, Option.bind_some]
  rw [hk, show decide ((1 : Int) < 1) = false from rfl, show decide ((1 : Int) > 4) = false from rfl, show ((1 : Int) == 1) = true from rfl]
  simp only [cond_false, cond_true]
  by_cases h1 : (B.acc w).ak ≥ 24
  · rw [if_pos h1, decide_eq_true h1, cond_true]
  · rw [if_neg h1, decide_eq_false h1, cond_false]
    by_cases h2 : a.cents < 1
    · rw [if_pos (.inl h2), decide_eq_true h2, cond_true]
    · rw [decide_eq_false h2, cond_false]
      by_cases h3 : a.cents > 1000000000
      · rw [if_pos (.inr h3), decide_eq_true h3, cond_true]
      · rw [if_neg (by omega), decide_eq_false h3, cond_false]

/-- what an ask may cost -/
def Ask.owes (a : Ask) : Int := IntKind.wrap .i64 ((if (if a.sb then a.s6 else IntKind.wrap .i64 (0 - a.s6)) < 0 then 0 else (if a.sb then a.s6 else IntKind.wrap .i64 (0 - a.s6))) * a.s5)

theorem owes_step (hk : a.kind = 2) : evF En (n + 1) 45 a.L = some [.int .i64 a.owes] := by
  unfold Ask.L Ask.owes
  rw [order_Owes_eq, hk, show ((2 : Int) == 2) = true from rfl, cond_true]
  cases a.sb <;> rfl

/-- May of a step -/
theorem may_step (h : B.Ok) (hk : a.kind = 2) : evF En (n + 2) 42 (B.L ++ .str w :: a.L) = some (B.L ++ [.int .i64 (if (B.acc w).ak ≥ 24 then 101 else if B.used w a.s1 > 0 then 100 else if (B.acc w).st ≥ 8 then 101
    else if IntKind.wrap .i64 ((B.acc w).ow + a.owes) > (B.acc w).lk then 221 else 0)]) := by
  have hm := named_run (n := n) (w := w) (a := a)
  rw [show a.no = a.s1 by simp [Ask.no, hk]] at hm
  have ho := owes_step (n := n) hk
  unfold Ask.L at hm ho
  unfold Bk.L Ask.L
  simp only [List.cons_append, List.nil_append]
  rw [book_Book_May_eq, hm, h.acc]
  simp only [at_one, FV.cells, Acc.fv, List.getElem?_cons_zero, List.getElem?_cons_succ, asInt_int, asStr_str, Option.bind_some]
  rw [h.step, h.block]
  simp only [at_one, FV.cells, StF.fv, BlF.fv, List.getElem?_cons_zero, List.getElem?_cons_succ, asInt_int, asStr_str, asBool_bool, asLst_list, Option.bind_some]
  rw [hk] at ho ⊢
  rw [show decide ((2 : Int) < 1) = false from rfl, show decide ((2 : Int) > 4) = false from rfl, show ((2 : Int) == 1) = false from rfl, show ((2 : Int) == 4) = false from rfl, show ((2 : Int) == 2) = true from rfl, show ((2 : Int) == 3) = false from rfl, h.used]
  simp only [cond_false, cond_true, FV.cells, List.getElem?_cons_zero, asInt_int, Option.bind_some, ho]
  by_cases h1 : (B.acc w).ak ≥ 24
  · rw [if_pos h1, decide_eq_true h1, cond_true]
  · rw [if_neg h1, decide_eq_false h1, cond_false]
    by_cases h2 : B.used w a.s1 > 0
    · rw [if_pos h2, decide_eq_true h2, cond_true]
    · rw [if_neg h2, decide_eq_false h2, cond_false]
      by_cases h3 : (B.acc w).st ≥ 8
      · rw [if_pos h3, decide_eq_true h3, cond_true]
      · rw [if_neg h3, decide_eq_false h3, cond_false]
        by_cases h4 : IntKind.wrap .i64 ((B.acc w).ow + a.owes) > (B.acc w).lk
        · rw [if_pos h4, decide_eq_true h4, cond_true]
        · rw [if_neg h4, decide_eq_false h4, cond_false]

/-- with this account -/
def Bk.setAcc (B : Bk) (w : ByteArray) (c : Acc) : Bk := { B with e3 := mput B.e3 (.str w) c.fv B.c3, c3 := mclk B.e3 (.str w) B.c3 }

theorem Bk.Ok.setAcc (h : B.Ok) (c : Acc) : (B.setAcc w c).Ok := ⟨h.v0, h.v1, h.v2, allV.put rfl h.v3, h.w2⟩

theorem add_no {e : Int} (he : e ≠ 0) (hm : evF En n 42 (B.L ++ .str w :: a.L) = some (B.L ++ [.int .i64 e])) : evF En (n + 1) 20 (B.L ++ .str w :: a.L) = some (B.L ++ [.int .i64 e]) := by
  unfold Bk.L Ask.L at hm ⊢
  simp only [List.cons_append, List.nil_append] at hm ⊢
  rw [book_Book_Add_eq, hm, Option.bind_some]
  simp only [List.getElem?_cons_zero, List.getElem?_cons_succ]
  repeat (first | rw [Option.bind_some] | rw [asLst_list] | rw [asInt_int])
  rw [show (e != 0) = true by simp [he], cond_true]

/-- Add of a lock that May lets in -/
theorem add_lock (h : B.Ok) (hk : a.kind = 1) (hm : evF En (n + 1) 42 (B.L ++ .str w :: a.L) = some (B.L ++ [.int .i64 0])) :
    evF En (n + 2) 20 (B.L ++ .str w :: a.L) = some ((B.setAcc w { B.acc w with lk := IntKind.wrap .i64 ((B.acc w).lk + a.cents), ak := IntKind.wrap .i64 ((B.acc w).ak + 1) }).L ++ [.int .i64 0]) := by
  have hn := named_run (n := n) (w := w) (a := a)
  unfold Bk.L Ask.L at hm
  unfold Ask.L at hn
  unfold Bk.L Ask.L
  simp only [List.cons_append, List.nil_append] at hm ⊢
  rw [book_Book_Add_eq, hm, Option.bind_some]
  simp only [List.getElem?_cons_zero, List.getElem?_cons_succ]
  repeat (first | rw [Option.bind_some] | rw [asLst_list] | rw [asInt_int])
  rw [show ((0 : Int) != 0) = false from rfl, cond_false, h.acc]
  simp only [at_one, Acc.fv, FV.cells, List.getElem?_cons_zero, List.getElem?_cons_succ]
  repeat (first | rw [Option.bind_some] | rw [asLst_list] | rw [asInt_int])
  rw [hn, Option.bind_some]
  simp only [List.getElem?_cons_zero, List.getElem?_cons_succ]
  repeat (first | rw [Option.bind_some] | rw [asStr_str] | rw [asInt_int])
  rw [hk]
  rw [show ((1 : Int) == 1) = true from rfl, cond_true, show ((1 : Int) == 2) = false from rfl, cond_false, show ((1 : Int) == 3) = false from rfl, cond_false]
  rfl

/-- with this step -/
def Bk.addStep (B : Bk) (w : ByteArray) (a : Ask) : Bk :=
  ({ B with e0 := mput B.e0 (nm w a.s1) (.agg [.str w, .int .i64 a.s1, .int .i64 a.s2, .int .i64 a.s3, .bool a.sb, .int .i64 a.s5, .int .i64 a.s6]) B.c0, c0 := mclk B.e0 (nm w a.s1) B.c0,
            e2 := mput B.e2 (nm w a.s1) (.int .i64 (IntKind.wrap .i64 (B.used w a.s1 + 1))) B.c2, c2 := mclk B.e2 (nm w a.s1) B.c2 } : Bk).setAcc w
    { B.acc w with ow := IntKind.wrap .i64 ((B.acc w).ow + a.owes), ak := IntKind.wrap .i64 ((B.acc w).ak + 1), st := IntKind.wrap .i64 ((B.acc w).st + 1) }

theorem Bk.Ok.addStep (h : B.Ok) : (B.addStep w a).Ok := ⟨allV.put rfl h.v0, h.v1, allV.put rfl h.v2, allV.put rfl h.v3, h.w2.put⟩

theorem add_step (h : B.Ok) (hk : a.kind = 2) (hm : evF En (n + 1) 42 (B.L ++ .str w :: a.L) = some (B.L ++ [.int .i64 0])) :
    evF En (n + 2) 20 (B.L ++ .str w :: a.L) = some ((B.addStep w a).L ++ [.int .i64 0]) := by
  have hn := named_run (n := n) (w := w) (a := a)
  rw [show a.no = a.s1 by simp [Ask.no, hk]] at hn
  have ho := owes_step (n := n) (a := { a with sw := w }) hk
  unfold Bk.L Ask.L at hm
  unfold Ask.L at hn ho
  unfold Bk.L Ask.L
  simp only [List.cons_append, List.nil_append] at hm ⊢
  rw [book_Book_Add_eq, hm, Option.bind_some]
  simp only [List.getElem?_cons_zero, List.getElem?_cons_succ]
  repeat (first | rw [Option.bind_some] | rw [asLst_list] | rw [asInt_int])
  rw [show ((0 : Int) != 0) = false from rfl, cond_false, h.acc]
  simp only [at_one, Acc.fv, FV.cells, List.getElem?_cons_zero, List.getElem?_cons_succ]
  repeat (first | rw [Option.bind_some] | rw [asLst_list] | rw [asInt_int])
  rw [hn, Option.bind_some]
  simp only [List.getElem?_cons_zero, List.getElem?_cons_succ]
  repeat (first | rw [Option.bind_some] | rw [asStr_str] | rw [asInt_int])
  rw [hk] at ho ⊢
  rw [show ((2 : Int) == 1) = false from rfl, cond_false, show ((2 : Int) == 2) = true from rfl, cond_true, cond_true, h.used]
  simp only [FV.cells, List.getElem?_cons_zero]
  rw [asInt_int, Option.bind_some, mhasB_ment, cond_true, ho, Option.bind_some]
  simp only [List.getElem?_cons_zero]
  rw [asInt_int, Option.bind_some, msetB_ment _ _ _ h.w2]
  rfl

theorem asks_run (h : B.Ok) : evF En (n + 1) 21 (B.L ++ [.str w]) = some (B.L ++ [.int .i64 (B.acc w).ak]) := by
  unfold Bk.L
  simp only [List.cons_append, List.nil_append]
  rw [book_Book_Asks_eq, h.acc]
  rfl
theorem locked_run (h : B.Ok) : evF En (n + 1) 22 (B.L ++ [.str w]) = some (B.L ++ [.int .i64 (B.acc w).lk]) := by
  unfold Bk.L
  simp only [List.cons_append, List.nil_append]
  rw [book_Book_Locked_eq, h.acc]
  rfl
theorem owes_run (h : B.Ok) : evF En (n + 1) 23 (B.L ++ [.str w]) = some (B.L ++ [.int .i64 (B.acc w).ow]) := by
  unfold Bk.L
  simp only [List.cons_append, List.nil_append]
  rw [book_Book_Owes_eq, h.acc]
  rfl

theorem keq_str (s t : ByteArray) : keq (.str s) (.str t) = decide (s = t) := by
  simp [keq, FV.cells, keqs, keq1, toList_eq]
theorem keq_nm (s t : ByteArray) (m k : Int) : keq (nm s m) (nm t k) = (decide (s = t) && decide (m = k)) := by
  simp [keq, nm, FV.cells, keqs, keq1, toList_eq]
  rw [Bool.eq_iff_iff]; simp

theorem acc_setAcc (c : Acc) (v : ByteArray) : (B.setAcc w c).acc v = if v = w then c else B.acc v := by
  unfold Bk.acc Bk.setAcc
  simp only
  rw [mgetD_mput, keq_str]
  by_cases h : v = w
  · rw [if_pos h, decide_eq_true h]; rfl
  · rw [if_neg h, decide_eq_false h]; rfl

def Bk.empty : Bk := ⟨[], 0, [], 0, [], 0, [], 0⟩
theorem allV_nil (p : FV → Bool) : allV p [] := fun e h => by cases h
theorem empty_ok : Bk.empty.Ok := ⟨allV_nil _, allV_nil _, allV_nil _, allV_nil _, trivial⟩
theorem new_run : evF En (n + 1) 19 [] = some Bk.empty.L := book_New_eq n

theorem steps_run {B : Bk} (hl : B.e0.length ≤ 1000000) (ho : (B.e0.map entVal).all stepOk = true) (hd : (B.e0.map fun e => fkey (entVal e)).Nodup) : evF En (n + 1) 24 B.L = some (B.L ++ [.list 7 (isort fless (B.e0.map entVal))]) := by
  show stepsExt B.L = _
  unfold Bk.L stepsExt
  simp only
  rw [if_pos ⟨hl, ho, hd⟩]
  rfl

theorem blocks_run {B : Bk} (hl : B.e1.length ≤ 12) (ho : (B.e1.map entVal).all blockOk = true) (hq : (B.e1.map entVal).all qOk = true) (hd : (B.e1.map fun e => fkey (entVal e)).Nodup) : evF En (n + 1) 30 B.L = some (B.L ++ [.list 8 (isort fless (B.e1.map entVal))]) := by
  show blocksExt B.L = _
  unfold Bk.L blocksExt
  simp only
  rw [if_pos ⟨hl, ho, hq, hd⟩]
  rfl

theorem who_run {B : Bk} (hl : B.e3.length ≤ 12) (ho : (B.e3.map entKey).all strOk = true) (hd : (B.e3.map fun e => strOf (entKey e)).Nodup) : evF En (n + 1) 31 B.L = some (B.L ++ [.list 1 (isort sless (B.e3.map entKey))]) := by
  show whoExt B.L = _
  unfold Bk.L whoExt
  simp only
  rw [if_pos ⟨hl, ho, hd⟩]
  rfl

end
end Rf
end

section
/- The book, more: asks of blocks, cancels. -/
set_option linter.unusedSimpArgs false
set_option linter.unusedVariables false
set_option maxHeartbeats 1000000
namespace Rf
open Go

/-- names, and blocks by their fields -/
structure Bk.OkN (B : Bk) : Prop where
  k1 : (B.e1.map entKey).all nameOk = true
  v1 : (B.e1.map entVal).all blockOk = true

section
variable {n : Nat} {B : Bk} {w : ByteArray} {a : Ask}

theorem child_run (h : B.OkN) (m : Int) : evF En (n + 1) 63 (B.L ++ [.str w, .int .i64 m]) = some (B.L ++ [.bool (B.e1.any (childB w m))]) := by
  show childExt (B.L ++ [.str w, .int .i64 m]) = _
  unfold Bk.L childExt
  simp only [List.cons_append, List.nil_append]
  rw [if_pos ⟨h.k1, h.v1⟩]

/-- May of a cancel -/
theorem may_cancel (h : B.Ok) (hN : B.OkN) (hk : a.kind = 4) : evF En (n + 3) 42 (B.L ++ .str w :: a.L) = some (B.L ++ [.int .i64 (if (B.acc w).ak ≥ 24 then 101
    else if mhas B.e0 (nm w a.seq) = false ∧ mhas B.e1 (nm w a.seq) = false then 102 else if mhas B.e1 (nm w a.seq) = true ∧ B.e1.any (childB w a.seq) = true then 103 else 0)]) := by
  have hm := named_run (n := n + 1) (w := w) (a := a)
  have hc := child_run (n := n + 1) (w := w) hN a.seq
  rw [show a.no = a.seq by simp [Ask.no, hk]] at hm
  unfold Ask.L at hm
  unfold Bk.L at hc
  unfold Bk.L Ask.L nm
  simp only [List.cons_append, List.nil_append] at hc ⊢
  rw [book_Book_May_eq, hm, h.acc]
  simp only [at_one, FV.cells, Acc.fv, List.getElem?_cons_zero, List.getElem?_cons_succ, asInt_int, asStr_str, Option.bind_some]
  rw [h.step, h.block]
  simp only [at_one, FV.cells, StF.fv, BlF.fv, List.getElem?_cons_zero, List.getElem?_cons_succ, asInt_int, asStr_str, asBool_bool, asLst_list, Option.bind_some]
  rw [hk, show decide ((4 : Int) < 1) = false from rfl, show decide ((4 : Int) > 4) = false from rfl, show ((4 : Int) == 1) = false from rfl, show ((4 : Int) == 4) = true from rfl]
  simp only [cond_false, cond_true]
  rw [hc]
  by_cases h1 : (B.acc w).ak ≥ 24
  · rw [if_pos h1, decide_eq_true h1, cond_true]
  · rw [if_neg h1, decide_eq_false h1, cond_false]
    simp only [List.getElem?_cons_zero, List.getElem?_cons_succ, asInt_int, asBool_bool, asLst_list, Option.bind_some]
    cases mhas B.e0 (.agg [.str w, .int .i64 a.seq]) <;> cases mhas B.e1 (.agg [.str w, .int .i64 a.seq]) <;> cases B.e1.any (childB w a.seq) <;> simp

/-- sum, as the machine sums -/
def sumW : Int → List Int → Int
  | acc, [] => acc
  | acc, q :: l => sumW (IntKind.wrap .i64 (acc + q)) l

theorem l8_run {price : Int} {buy : Bool} {qs : List Int} (hl : qs.length < 1000000) : ∀ (l : List Int) (i m : Nat) (acc : Int), qs.drop i = l → i + l.length = qs.length → l.length < m →
    order_Owes.l8 n [] m [.int .i64 price, .int .i64 acc, .bool buy, .list 1 (qs.map (FV.int .i64)), .int .i64 (qs.length : Int), .int .i64 (i : Int)] =
      some [.int .i64 (IntKind.wrap .i64 ((if (if buy then price else IntKind.wrap .i64 (0 - price)) < 0 then 0 else (if buy then price else IntKind.wrap .i64 (0 - price))) * sumW acc l))]
  | [], i, m, acc, hd, hi, hm => by
    obtain ⟨m, rfl⟩ : ∃ k, m = k + 1 := ⟨m - 1, by omega⟩
    simp only [List.length_nil] at hi
    rw [order_Owes.l8_eq, show decide ((i : Int) < (qs.length : Int)) = false from decide_eq_false (by omega), cond_false]
    cases buy <;> rfl
  | q :: l, i, m, acc, hd, hi, hm => by
    obtain ⟨m, rfl⟩ : ∃ k, m = k + 1 := ⟨m - 1, by omega⟩
    simp only [List.length_cons] at hi hm
    have hlt : i < qs.length := by omega
    have hq : qs[i] = q := by
      have := congrArg (fun l => l[0]?) hd
      simp only [List.getElem?_drop, Nat.add_zero, List.getElem?_cons_zero] at this
      rw [List.getElem?_eq_getElem hlt] at this
      simpa using this
    rw [order_Owes.l8_eq, show decide ((i : Int) < (qs.length : Int)) = true from decide_eq_true (by omega), cond_true, List.length_map, ix_nat hlt, Option.bind_some, at_map, List.getElem?_eq_getElem hlt, hq]
    simp only [Option.bind_some, FV.cells, List.getElem?_cons_zero, asInt_int]
    rw [wrap_succ (by omega)]
    exact l8_run hl l (i + 1) m _ (by rw [← List.drop_drop, hd]; rfl) (by omega) (by omega)

/-- what a block may cost -/
def Ask.owesB (a : Ask) (qs : List Int) : Int := IntKind.wrap .i64 ((if (if a.bb then a.b4 else IntKind.wrap .i64 (0 - a.b4)) < 0 then 0 else (if a.bb then a.b4 else IntKind.wrap .i64 (0 - a.b4))) * sumW 0 qs)

theorem owes_block {qs : List Int} (hk : a.kind = 3) (hq : a.bq = qs.map (FV.int .i64)) (hl : qs.length < 1000000) (hn : qs.length < n) : evF En (n + 1) 45 a.L = some [.int .i64 (a.owesB qs)] := by
  unfold Ask.L Ask.owesB
  rw [order_Owes_eq, hk, show ((3 : Int) == 2) = false from rfl, show ((3 : Int) == 3) = true from rfl, cond_false, cond_true, hq, List.length_map]
  exact l8_run hl qs 0 n 0 rfl (by simp) hn

/-- May of a block -/
theorem may_block {qs : List Int} (h : B.Ok) (hk : a.kind = 3) (hq : a.bq = qs.map (FV.int .i64)) (hl : qs.length < 1000000) (hn : qs.length < n) : evF En (n + 2) 42 (B.L ++ .str w :: a.L) = some (B.L ++ [.int .i64 (if (B.acc w).ak ≥ 24 then 101
    else if B.used w a.b1 > 0 then 100 else if (B.acc w).bl ≥ 3 then 101 else if a.b6 > 0 ∧ mhas B.e1 (nm w a.b6) = false then 103
    else if IntKind.wrap .i64 ((B.acc w).ow + a.owesB qs) > (B.acc w).lk then 221 else 0)]) := by
  have hm := named_run (n := n) (w := w) (a := a)
  rw [show a.no = a.b1 by simp [Ask.no, hk]] at hm
  have ho := owes_block (n := n) hk hq hl hn
  unfold Ask.L at hm ho
  unfold Bk.L Ask.L nm
  simp only [List.cons_append, List.nil_append]
  rw [book_Book_May_eq, hm, h.acc]
  simp only [at_one, FV.cells, Acc.fv, List.getElem?_cons_zero, List.getElem?_cons_succ, asInt_int, asStr_str, Option.bind_some]
  rw [h.step, h.block, h.block]
  simp only [at_one, FV.cells, StF.fv, BlF.fv, List.getElem?_cons_zero, List.getElem?_cons_succ, asInt_int, asStr_str, asBool_bool, asLst_list, Option.bind_some]
  rw [hk] at ho ⊢
  rw [show decide ((3 : Int) < 1) = false from rfl, show decide ((3 : Int) > 4) = false from rfl, show ((3 : Int) == 1) = false from rfl, show ((3 : Int) == 4) = false from rfl, show ((3 : Int) == 2) = false from rfl, show ((3 : Int) == 3) = true from rfl, h.used]
  simp only [cond_false, cond_true, FV.cells, List.getElem?_cons_zero, asInt_int, Option.bind_some, ho]
  by_cases h1 : (B.acc w).ak ≥ 24
  · rw [if_pos h1, decide_eq_true h1, cond_true]
  · rw [if_neg h1, decide_eq_false h1, cond_false]
    by_cases h2 : B.used w a.b1 > 0
    · rw [if_pos h2, decide_eq_true h2, cond_true]
    · rw [if_neg h2, decide_eq_false h2, cond_false]
      by_cases h3 : (B.acc w).bl ≥ 3
      · rw [if_pos h3, decide_eq_true h3, cond_true]
      · rw [if_neg h3, decide_eq_false h3, cond_false]
        by_cases h4 : a.b6 > 0
        · rw [decide_eq_true h4, cond_true]
          cases h5 : mhas B.e1 (.agg [.str w, .int .i64 a.b6]) with
          | false => rw [if_pos ⟨h4, rfl⟩]; rfl
          | true =>
            rw [if_neg (by simp), Bool.not_true, cond_false]
            by_cases h6 : IntKind.wrap .i64 ((B.acc w).ow + a.owesB qs) > (B.acc w).lk
            · rw [if_pos h6, decide_eq_true h6, cond_true]
            · rw [if_neg h6, decide_eq_false h6, cond_false]
        · rw [decide_eq_false h4, cond_false, if_neg (by simp [h4])]
          by_cases h6 : IntKind.wrap .i64 ((B.acc w).ow + a.owesB qs) > (B.acc w).lk
          · rw [if_pos h6, decide_eq_true h6, cond_true]
          · rw [if_neg h6, decide_eq_false h6, cond_false]

/-- with this block -/
def Bk.addBlock (B : Bk) (w : ByteArray) (a : Ask) (qs : List Int) : Bk :=
  ({ B with e1 := mput B.e1 (nm w a.b1) (.agg [.str w, .int .i64 a.b1, .int .i64 a.b2, .bool a.bb, .int .i64 a.b4, .list 1 (qs.map (FV.int .i64)), .int .i64 a.b6, .int .i64 a.b7]) B.c1, c1 := mclk B.e1 (nm w a.b1) B.c1,
            e2 := mput B.e2 (nm w a.b1) (.int .i64 (IntKind.wrap .i64 (B.used w a.b1 + 1))) B.c2, c2 := mclk B.e2 (nm w a.b1) B.c2 } : Bk).setAcc w
    { B.acc w with ow := IntKind.wrap .i64 ((B.acc w).ow + a.owesB qs), ak := IntKind.wrap .i64 ((B.acc w).ak + 1), bl := IntKind.wrap .i64 ((B.acc w).bl + 1) }

theorem Bk.Ok.addBlock {qs : List Int} (h : B.Ok) : (B.addBlock w a qs).Ok := ⟨h.v0, allV.put rfl h.v1, allV.put rfl h.v2, allV.put rfl h.v3, h.w2.put⟩

theorem clone_run {xs : List FV} (h : xs.length ≤ 1000000000) : evF En (n + 1) 44 [.list 1 xs] = some [.list 1 xs] := by
  show (if xs.length ≤ 1000000000 then some [FV.list 1 xs] else none) = _
  rw [if_pos h]

theorem add_block {qs : List Int} (h : B.Ok) (hk : a.kind = 3) (hq : a.bq = qs.map (FV.int .i64)) (hl : qs.length < 1000000) (hn' : qs.length < n) (hm : evF En (n + 1) 42 (B.L ++ .str w :: a.L) = some (B.L ++ [.int .i64 0])) :
    evF En (n + 2) 20 (B.L ++ .str w :: a.L) = some ((B.addBlock w a qs).L ++ [.int .i64 0]) := by
  have hn := named_run (n := n) (w := w) (a := a)
  rw [show a.no = a.b1 by simp [Ask.no, hk]] at hn
  have ho := owes_block (n := n) (a := { a with bw := w }) (qs := qs) hk hq hl hn'
  have hc := clone_run (n := n) (xs := qs.map (FV.int .i64)) (by simp; omega)
  unfold Bk.L Ask.L at hm
  unfold Ask.L at hn ho
  unfold Bk.L Ask.L
  simp only [List.cons_append, List.nil_append] at hm ⊢
  rw [book_Book_Add_eq, hm, Option.bind_some]
  simp only [List.getElem?_cons_zero, List.getElem?_cons_succ]
  repeat (first | rw [Option.bind_some] | rw [asLst_list] | rw [asInt_int])
  rw [show ((0 : Int) != 0) = false from rfl, cond_false, h.acc]
  simp only [at_one, Acc.fv, FV.cells, List.getElem?_cons_zero, List.getElem?_cons_succ]
  repeat (first | rw [Option.bind_some] | rw [asLst_list] | rw [asInt_int])
  rw [hn, Option.bind_some]
  simp only [List.getElem?_cons_zero, List.getElem?_cons_succ]
  repeat (first | rw [Option.bind_some] | rw [asStr_str] | rw [asInt_int])
  rw [hk] at ho ⊢
  rw [hq] at ho ⊢
  rw [show ((3 : Int) == 1) = false from rfl, cond_false, show ((3 : Int) == 2) = false from rfl, cond_false, show ((3 : Int) == 3) = true from rfl, cond_true, hc, Option.bind_some]
  simp only [List.getElem?_cons_zero, List.getElem?_cons_succ]
  rw [asLst_list, Option.bind_some, cond_false, cond_true, h.used]
  simp only [FV.cells, List.getElem?_cons_zero]
  rw [asInt_int, Option.bind_some, mhasB_ment, cond_true, ho, Option.bind_some]
  simp only [List.getElem?_cons_zero]
  rw [asInt_int, Option.bind_some, msetB_ment _ _ _ h.w2]
  rfl

/-- a step as an ask -/
def StF.ask (x : StF) : Ask := ⟨2, 0, 0, x.s, x.a, x.b, x.c, x.d, x.e, x.f, { data := #[] }, 0, 0, false, 0, [], 0, 0⟩
/-- a block as an ask -/
def BlF.ask (x : BlF) : Ask := ⟨3, 0, 0, { data := #[] }, 0, 0, 0, false, 0, 0, x.w, x.a, x.b, x.c, x.d, x.q, x.e, x.f⟩

/-- without this step -/
def Bk.delStep (B : Bk) (w : ByteArray) (m : Int) : Bk :=
  ({ B with e0 := mdel B.e0 (nm w m) } : Bk).setAcc w { B.acc w with ow := IntKind.wrap .i64 ((B.acc w).ow - (B.step w m).ask.owes), ak := IntKind.wrap .i64 ((B.acc w).ak + 1), st := IntKind.wrap .i64 ((B.acc w).st - 1) }
/-- without this block -/
def Bk.delBlock (B : Bk) (w : ByteArray) (m : Int) (qs : List Int) : Bk :=
  ({ B with e1 := mdel B.e1 (nm w m) } : Bk).setAcc w { B.acc w with ow := IntKind.wrap .i64 ((B.acc w).ow - (B.block w m).ask.owesB qs), ak := IntKind.wrap .i64 ((B.acc w).ak + 1), bl := IntKind.wrap .i64 ((B.acc w).bl - 1) }

theorem Bk.Ok.delStep {m : Int} (h : B.Ok) : (B.delStep w m).Ok := ⟨allV.del h.v0, h.v1, h.v2, allV.put rfl h.v3, h.w2⟩
theorem Bk.Ok.delBlock {m : Int} {qs : List Int} (h : B.Ok) : (B.delBlock w m qs).Ok := ⟨h.v0, allV.del h.v1, h.v2, allV.put rfl h.v3, h.w2⟩

theorem add_cancel_step (h : B.Ok) (hk : a.kind = 4) (hs : mhas B.e0 (nm w a.seq) = true) (hm : evF En (n + 1) 42 (B.L ++ .str w :: a.L) = some (B.L ++ [.int .i64 0])) :
    evF En (n + 2) 20 (B.L ++ .str w :: a.L) = some ((B.delStep w a.seq).L ++ [.int .i64 0]) := by
  have hn := named_run (n := n) (w := w) (a := a)
  rw [show a.no = a.seq by simp [Ask.no, hk]] at hn
  have ho := owes_step (n := n) (a := (B.step w a.seq).ask) rfl
  unfold Bk.L Ask.L at hm
  unfold Ask.L at hn
  simp only [Ask.L, StF.ask] at ho
  unfold nm at hs
  unfold Bk.L Ask.L
  simp only [List.cons_append, List.nil_append] at hm ⊢
  rw [book_Book_Add_eq, hm, Option.bind_some]
  simp only [List.getElem?_cons_zero, List.getElem?_cons_succ]
  repeat (first | rw [Option.bind_some] | rw [asLst_list] | rw [asInt_int])
  rw [show ((0 : Int) != 0) = false from rfl, cond_false, h.acc]
  simp only [at_one, Acc.fv, FV.cells, List.getElem?_cons_zero, List.getElem?_cons_succ]
  repeat (first | rw [Option.bind_some] | rw [asLst_list] | rw [asInt_int])
  rw [hn, Option.bind_some]
  simp only [List.getElem?_cons_zero, List.getElem?_cons_succ]
  repeat (first | rw [Option.bind_some] | rw [asStr_str] | rw [asInt_int])
  rw [hk]
  rw [show ((4 : Int) == 1) = false from rfl, cond_false, show ((4 : Int) == 2) = false from rfl, cond_false, show ((4 : Int) == 3) = false from rfl, cond_false, show ((4 : Int) == 4) = true from rfl, cond_true, h.step, hs]
  simp only [FV.cells, StF.fv, List.getElem?_cons_zero, List.getElem?_cons_succ, asInt_int, asStr_str, asBool_bool, Option.bind_some, cond_true, cond_false]
  rw [ho]
  rfl

theorem add_cancel_block {qs : List Int} (h : B.Ok) (hk : a.kind = 4) (hs : mhas B.e0 (nm w a.seq) = false) (hq : (B.block w a.seq).q = qs.map (FV.int .i64)) (hl : qs.length < 1000000) (hn' : qs.length < n) (hm : evF En (n + 1) 42 (B.L ++ .str w :: a.L) = some (B.L ++ [.int .i64 0])) :
    evF En (n + 2) 20 (B.L ++ .str w :: a.L) = some ((B.delBlock w a.seq qs).L ++ [.int .i64 0]) := by
  have hn := named_run (n := n) (w := w) (a := a)
  rw [show a.no = a.seq by simp [Ask.no, hk]] at hn
  have ho := owes_block (n := n) (a := (B.block w a.seq).ask) (qs := qs) rfl hq hl hn'
  unfold Bk.L Ask.L at hm
  unfold Ask.L at hn
  simp only [Ask.L, BlF.ask] at ho
  unfold nm at hs
  unfold Bk.L Ask.L
  simp only [List.cons_append, List.nil_append] at hm ⊢
  rw [book_Book_Add_eq, hm, Option.bind_some]
  simp only [List.getElem?_cons_zero, List.getElem?_cons_succ]
  repeat (first | rw [Option.bind_some] | rw [asLst_list] | rw [asInt_int])
  rw [show ((0 : Int) != 0) = false from rfl, cond_false, h.acc]
  simp only [at_one, Acc.fv, FV.cells, List.getElem?_cons_zero, List.getElem?_cons_succ]
  repeat (first | rw [Option.bind_some] | rw [asLst_list] | rw [asInt_int])
  rw [hn, Option.bind_some]
  simp only [List.getElem?_cons_zero, List.getElem?_cons_succ]
  repeat (first | rw [Option.bind_some] | rw [asStr_str] | rw [asInt_int])
  rw [hk]
  rw [show ((4 : Int) == 1) = false from rfl, cond_false, show ((4 : Int) == 2) = false from rfl, cond_false, show ((4 : Int) == 3) = false from rfl, cond_false, show ((4 : Int) == 4) = true from rfl, cond_true, h.step, hs]
  simp only [FV.cells, StF.fv, List.getElem?_cons_zero, List.getElem?_cons_succ, asInt_int, asStr_str, asBool_bool, Option.bind_some, cond_false]
  rw [h.block]
  simp only [FV.cells, BlF.fv, List.getElem?_cons_zero, List.getElem?_cons_succ, asInt_int, asStr_str, asBool_bool, asLst_list, Option.bind_some, cond_false]
  rw [ho]
  rfl

end
end Rf
end

section
/- BookOwes: the law's guards. -/
set_option linter.unusedSimpArgs false
set_option linter.unusedVariables false
set_option maxHeartbeats 1000000
namespace Rf
open Go

structure Stp where
  who : ByteArray
  a : Ask
  qs : List Int
  hq : a.bq = qs.map (FV.int .i64)

def Stp.fv (s : Stp) : FV := .agg (.str s.who :: s.a.L)

def stpShp : List Shp := [.str, .int .i64, .int .i64, .int .i64, .str, .int .i64, .int .i64, .int .i64, .bool, .int .i64, .int .i64, .str, .int .i64, .int .i64, .bool, .int .i64, .lst false 8 [.int .i64], .int .i64, .int .i64]

theorem stp_of {cs : List FV} (h : All2 Fits stpShp cs) : ∃ s : Stp, mkEl true cs = s.fv ∧ True := by
  obtain ⟨y1, r1, rfl, g1, h⟩ := h.cons_inv
  obtain ⟨y2, r2, rfl, g2, h⟩ := h.cons_inv
  obtain ⟨y3, r3, rfl, g3, h⟩ := h.cons_inv
  obtain ⟨y4, r4, rfl, g4, h⟩ := h.cons_inv
  obtain ⟨y5, r5, rfl, g5, h⟩ := h.cons_inv
  obtain ⟨y6, r6, rfl, g6, h⟩ := h.cons_inv
  obtain ⟨y7, r7, rfl, g7, h⟩ := h.cons_inv
  obtain ⟨y8, r8, rfl, g8, h⟩ := h.cons_inv
  obtain ⟨y9, r9, rfl, g9, h⟩ := h.cons_inv
  obtain ⟨y10, r10, rfl, g10, h⟩ := h.cons_inv
  obtain ⟨y11, r11, rfl, g11, h⟩ := h.cons_inv
  obtain ⟨y12, r12, rfl, g12, h⟩ := h.cons_inv
  obtain ⟨y13, r13, rfl, g13, h⟩ := h.cons_inv
  obtain ⟨y14, r14, rfl, g14, h⟩ := h.cons_inv
  obtain ⟨y15, r15, rfl, g15, h⟩ := h.cons_inv
  obtain ⟨y16, r16, rfl, g16, h⟩ := h.cons_inv
  obtain ⟨y17, r17, rfl, g17, h⟩ := h.cons_inv
  obtain ⟨y18, r18, rfl, g18, h⟩ := h.cons_inv
  obtain ⟨y19, r19, rfl, g19, h⟩ := h.cons_inv
  obtain rfl := h.nil_inv
  obtain ⟨n1, rfl, _⟩ := g1.str_inv
  obtain ⟨n2, rfl, _⟩ := g2.int_inv
  obtain ⟨n3, rfl, _⟩ := g3.int_inv
  obtain ⟨n4, rfl, _⟩ := g4.int_inv
  obtain ⟨n5, rfl, _⟩ := g5.str_inv
  obtain ⟨n6, rfl, _⟩ := g6.int_inv
  obtain ⟨n7, rfl, _⟩ := g7.int_inv
  obtain ⟨n8, rfl, _⟩ := g8.int_inv
  obtain ⟨n9, rfl⟩ := g9.bool_inv
  obtain ⟨n10, rfl, _⟩ := g10.int_inv
  obtain ⟨n11, rfl, _⟩ := g11.int_inv
  obtain ⟨n12, rfl, _⟩ := g12.str_inv
  obtain ⟨n13, rfl, _⟩ := g13.int_inv
  obtain ⟨n14, rfl, _⟩ := g14.int_inv
  obtain ⟨n15, rfl⟩ := g15.bool_inv
  obtain ⟨n16, rfl, _⟩ := g16.int_inv
  obtain ⟨qs, rfl, _, _⟩ := g17.lst_map (fun q : Int => FV.int .i64 q) (R := fun _ => True) fun cs hcs => by
    obtain ⟨y, r, rfl, hy, hr⟩ := hcs.cons_inv
    obtain rfl := hr.nil_inv
    obtain ⟨q, rfl, _⟩ := hy.int_inv
    exact ⟨q, rfl, trivial⟩
  obtain ⟨n18, rfl, _⟩ := g18.int_inv
  obtain ⟨n19, rfl, _⟩ := g19.int_inv
  exact ⟨⟨n1, ⟨n2, n3, n4, n5, n6, n7, n8, n9, n10, n11, n12, n13, n14, n15, n16, qs.map (FV.int .i64), n18, n19⟩, qs, rfl⟩, rfl, trivial⟩

section
variable {n : Nat} {a : Ask} {qs : List Int}

theorem q_at (i : Nat) (h : i < qs.length) : at' (qs.map (FV.int .i64)) i 0 = some (.int .i64 qs[i]) := by rw [at_map, List.getElem?_eq_getElem h]; rfl

theorem great6_run {s0 : ByteArray} {x1 x2 x4 x6 x7 : Int} {b3 : Bool} (h16 : qs.length ≤ 16) : ∀ (d i m : Nat), i + d = qs.length → d < m →
    ∃ r, noonbelllaw10_great.l6 n [] m [.str s0, .int .i64 x1, .int .i64 x2, .bool b3, .int .i64 x4, .list 1 (qs.map (FV.int .i64)), .int .i64 x6, .int .i64 x7, .int .i64 (i : Int)] = some [.bool r] ∧
      (r = false → ∀ j (hj : j < qs.length), i ≤ j → -1000000 ≤ qs[j] ∧ qs[j] ≤ 1000000)
  | 0, i, m, hi, hm => by
    obtain ⟨m, rfl⟩ : ∃ k, m = k + 1 := ⟨m - 1, by omega⟩
    rw [noonbelllaw10_great.l6_eq, List.length_map, show decide ((i : Int) < (qs.length : Int)) = false from decide_eq_false (by omega), cond_false]
    exact ⟨false, rfl, fun _ j hj hij => by omega⟩
  | d + 1, i, m, hi, hm => by
    obtain ⟨m, rfl⟩ : ∃ k, m = k + 1 := ⟨m - 1, by omega⟩
    have hlt : i < qs.length := by omega
    rw [noonbelllaw10_great.l6_eq, List.length_map, show decide ((i : Int) < (qs.length : Int)) = true from decide_eq_true (by omega), cond_true]
    simp only [ix_nat hlt, Option.bind_some, q_at i hlt, asInt_int]
    by_cases h1 : qs[i] > 1000000
    · rw [decide_eq_true h1, cond_true]; exact ⟨true, rfl, fun h => by cases h⟩
    · rw [decide_eq_false h1, cond_false]
      by_cases h2 : qs[i] < -1000000
      · rw [decide_eq_true h2, cond_true]; exact ⟨true, rfl, fun h => by cases h⟩
      · rw [decide_eq_false h2, cond_false, wrap_succ (by omega)]
        obtain ⟨r, q1, q2⟩ := great6_run (s0 := s0) (x1 := x1) (x2 := x2) (x4 := x4) (x6 := x6) (x7 := x7) (b3 := b3) h16 d (i + 1) m (by omega) (by omega)
        refine ⟨r, q1, fun h j hj hij => ?_⟩
        by_cases hji : j = i
        · subst hji; omega
        · exact q2 h j hj (by omega)

/-- within the bounds of layer 9 -/
structure Small (a : Ask) (qs : List Int) : Prop where
  s5 : -1000000 ≤ a.s5 ∧ a.s5 ≤ 1000000
  s6 : -1000000 ≤ a.s6 ∧ a.s6 ≤ 1000000
  b4 : -1000000 ≤ a.b4 ∧ a.b4 ≤ 1000000
  len : qs.length ≤ 16
  q : ∀ q, q ∈ qs → -1000000 ≤ q ∧ q ≤ 1000000

theorem great_run (hq : a.bq = qs.map (FV.int .i64)) (hn : 16 < n) : ∃ r, evF En (n + 1) 25 a.L = some [.bool r] ∧ (r = false → Small a qs) := by
  unfold Ask.L
  rw [noonbelllaw10_great_eq, hq, List.length_map]
  by_cases h1 : a.s5 > 1000000
  · rw [decide_eq_true h1, cond_true]; exact ⟨true, rfl, fun h => by cases h⟩
  rw [decide_eq_false h1, cond_false]
  by_cases h2 : a.s5 < -1000000
  · rw [decide_eq_true h2, cond_true]; exact ⟨true, rfl, fun h => by cases h⟩
  rw [decide_eq_false h2, cond_false]
  by_cases h3 : a.s6 > 1000000
  · rw [decide_eq_true h3, cond_true]; exact ⟨true, rfl, fun h => by cases h⟩
  rw [decide_eq_false h3, cond_false]
  by_cases h4 : a.s6 < -1000000
  · rw [decide_eq_true h4, cond_true]; exact ⟨true, rfl, fun h => by cases h⟩
  rw [decide_eq_false h4, cond_false]
  by_cases h5 : a.b4 > 1000000
  · rw [decide_eq_true h5, cond_true]; exact ⟨true, rfl, fun h => by cases h⟩
  rw [decide_eq_false h5, cond_false]
  by_cases h6 : a.b4 < -1000000
  · rw [decide_eq_true h6, cond_true]; exact ⟨true, rfl, fun h => by cases h⟩
  rw [decide_eq_false h6, cond_false]
  by_cases h7 : (qs.length : Int) > 16
  · rw [decide_eq_true h7, cond_true]; exact ⟨true, rfl, fun h => by cases h⟩
  rw [decide_eq_false h7, cond_false]
  obtain ⟨r, q1, q2⟩ := great6_run (n := n) (qs := qs) (s0 := a.bw) (x1 := a.b1) (x2 := a.b2) (x4 := a.b4) (x6 := a.b6) (x7 := a.b7) (b3 := a.bb) (by omega) qs.length 0 n (by omega) (by omega)
  refine ⟨r, q1, fun h => ⟨by omega, by omega, by omega, by omega, fun q hq => ?_⟩⟩
  obtain ⟨j, hj, rfl⟩ := List.mem_iff_getElem.1 hq
  exact q2 h j hj (by omega)

theorem below2_run (h16 : qs.length ≤ 16) : ∀ (d i m : Nat), i + d = qs.length → d < m →
    ∃ r, noonbelllaw10_below.l2 n [] m [.list 1 (qs.map (FV.int .i64)), .int .i64 (i : Int)] = some [.bool r] ∧ (r = false → ∀ j (hj : j < qs.length), i ≤ j → 0 ≤ qs[j])
  | 0, i, m, hi, hm => by
    obtain ⟨m, rfl⟩ : ∃ k, m = k + 1 := ⟨m - 1, by omega⟩
    rw [noonbelllaw10_below.l2_eq, List.length_map, show decide ((i : Int) < (qs.length : Int)) = false from decide_eq_false (by omega), cond_false]
    exact ⟨false, rfl, fun _ j hj hij => by omega⟩
  | d + 1, i, m, hi, hm => by
    obtain ⟨m, rfl⟩ : ∃ k, m = k + 1 := ⟨m - 1, by omega⟩
    have hlt : i < qs.length := by omega
    rw [noonbelllaw10_below.l2_eq, List.length_map, show decide ((i : Int) < (qs.length : Int)) = true from decide_eq_true (by omega), cond_true]
    simp only [ix_nat hlt, Option.bind_some, q_at i hlt, asInt_int]
    by_cases h1 : qs[i] < 0
    · rw [decide_eq_true h1, cond_true]; exact ⟨true, rfl, fun h => by cases h⟩
    · rw [decide_eq_false h1, cond_false, wrap_succ (by omega)]
      obtain ⟨r, q1, q2⟩ := below2_run h16 d (i + 1) m (by omega) (by omega)
      refine ⟨r, q1, fun h j hj hij => ?_⟩
      by_cases hji : j = i
      · subst hji; omega
      · exact q2 h j hj (by omega)

theorem below_run (h16 : qs.length ≤ 16) (hn : 16 < n) : ∃ r, evF En (n + 1) 32 [.list 1 (qs.map (FV.int .i64))] = some [.bool r] ∧ (r = false → ∀ q, q ∈ qs → 0 ≤ q) := by
  rw [noonbelllaw10_below_eq]
  obtain ⟨r, q1, q2⟩ := below2_run (n := n) h16 qs.length 0 n (by omega) (by omega)
  refine ⟨r, q1, fun h q hq => ?_⟩
  obtain ⟨j, hj, rfl⟩ := List.mem_iff_getElem.1 hq
  exact q2 h j hj (by omega)

theorem heavy_run {l : List Stp} (hl : l.length < 9223372036854775807) : ∀ (d i m : Nat) (x : Int), i + d = l.length → d < m → ∃ r, noonbelllaw10_heavy.l3 n [] m [.list 19 (l.map Stp.fv), .int .i64 x, .int .i64 (i : Int)] = some [.bool r] ∧ (r = false → l.length ≤ 256) := by
  intro d
  have fin : ∀ x : Int, ∃ r, (bif (decide (x > 4096)) then some [FV.bool true] else some [FV.bool (decide ((l.length : Int) > 256))]) = some [FV.bool r] ∧ (r = false → l.length ≤ 256) := by
    intro x
    cases decide (x > 4096) with
    | true => exact ⟨true, rfl, by simp⟩
    | false => exact ⟨_, rfl, fun h => by have := of_decide_eq_false h; omega⟩
  induction d with
  | zero =>
    intro i m x hi hm
    obtain ⟨m, rfl⟩ : ∃ k, m = k + 1 := ⟨m - 1, by omega⟩
    rw [noonbelllaw10_heavy.l3_eq, List.length_map, show decide ((i : Int) < (l.length : Int)) = false from decide_eq_false (by omega), cond_false]
    exact fin x
  | succ d ih =>
    intro i m x hi hm
    obtain ⟨m, rfl⟩ : ∃ k, m = k + 1 := ⟨m - 1, by omega⟩
    rw [noonbelllaw10_heavy.l3_eq, List.length_map, show decide ((i : Int) < (l.length : Int)) = true from decide_eq_true (by omega), cond_true]
    cases hx : decide (x ≤ 4096) with
    | false => rw [cond_false]; exact fin x
    | true =>
      have hlt : i < l.length := by omega
      have hel : ∀ c, at' (l.map Stp.fv) i c = (Stp.fv l[i]).cells[c]? := fun c => by rw [at_map, List.getElem?_eq_getElem hlt]; rfl
      generalize hs : l[i] = s at hel
      simp only [cond_true, ix_nat hlt, Option.bind_some, hel, Stp.fv, Ask.L, FV.cells, List.getElem?_cons_zero, List.getElem?_cons_succ, asInt_int, asStr_str, asBool_bool, asLst_list]
      rw [wrap_succ (by omega)]
      exact ih (i + 1) m _ (by omega) (by omega)

end
end Rf
end

section
/- The entries of a map by names, all of one participant. -/
set_option linter.unusedSimpArgs false
set_option linter.unusedVariables false
namespace Rf
open Go

/-- entries by names, all of one participant: each stands under its own name, names differ, and each value fits -/
structure Nmd (w : ByteArray) (P : FV → Prop) (es : List FV) : Prop where
  ent : ∀ e, e ∈ es → ∃ k v b, e = .agg [nm w k, v, .int .i64 b] ∧ fkey v = (w, k) ∧ P v
  nod : (es.map fun e => fkey (entVal e)).Nodup

theorem mdel_sub (k : FV) : ∀ es : List FV, (mdel es k).Sublist es
  | [] => .slnil
  | e :: es => by
    simp only [mdel]
    cases keq k (entKey e) with
    | true => exact List.sublist_cons_self e es
    | false => exact (mdel_sub k es).cons_cons e

theorem mdel_len {k : FV} : ∀ {es : List FV}, mhas es k = true → (mdel es k).length + 1 = es.length
  | [], h => by simp [mhas] at h
  | e :: es, h => by
    simp only [mdel]
    cases hk : keq k (entKey e) with
    | true => rfl
    | false =>
      have : mhas es k = true := by simpa [mhas, hk] using h
      simp [mdel_len this]

theorem mdel_mem {k e : FV} : ∀ {es : List FV}, e ∈ es → keq k (entKey e) = false → e ∈ mdel es k
  | [], h, _ => h
  | x :: es, h, hk => by
    simp only [mdel]
    cases hx : keq k (entKey x) with
    | true =>
      rcases List.mem_cons.1 h with rfl | h
      · rw [hx] at hk; cases hk
      · exact h
    | false =>
      rcases List.mem_cons.1 h with rfl | h
      · exact List.mem_cons_self
      · exact List.mem_cons_of_mem _ (mdel_mem h hk)

theorem mgetD_mem {k z : FV} : ∀ {es : List FV}, mhas es k = true → ∃ e, e ∈ es ∧ mgetD es k z = entVal e ∧ keq k (entKey e) = true
  | [], h => by simp [mhas] at h
  | e :: es, h => by
    simp only [mgetD]
    cases hk : keq k (entKey e) with
    | true => exact ⟨e, by simp, rfl, hk⟩
    | false =>
      obtain ⟨x, q1, q2, q3⟩ := mgetD_mem (z := z) (es := es) (by simpa [mhas, hk] using h)
      exact ⟨x, List.mem_cons_of_mem _ q1, q2, q3⟩

section
variable {w : ByteArray} {P : FV → Prop} {es : List FV}

theorem Nmd.nil : Nmd w P [] := ⟨fun e h => (by cases h), .nil⟩

theorem Nmd.keq (h : Nmd w P es) {e : FV} (he : e ∈ es) (k : Int) : keq (nm w k) (entKey e) = decide (k = (fkey (entVal e)).2) := by
  obtain ⟨k', v, b, rfl, hv, _⟩ := h.ent e he
  show Rf.keq (nm w k) (nm w k') = decide (k = (fkey v).2)
  rw [keq_nm, hv]; simp

theorem Nmd.fst (h : Nmd w P es) {e : FV} (he : e ∈ es) : (fkey (entVal e)).1 = w ∧ P (entVal e) := by
  obtain ⟨k', v, b, rfl, hv, hp⟩ := h.ent e he
  exact ⟨by show (fkey v).1 = w; rw [hv], hp⟩

theorem Nmd.has (h : Nmd w P es) {k : Int} : mhas es (nm w k) = true ↔ ∃ e, e ∈ es ∧ (fkey (entVal e)).2 = k := by
  unfold mhas
  rw [List.any_eq_true]
  constructor
  · rintro ⟨e, he, hk⟩
    rw [h.keq he] at hk
    exact ⟨e, he, (of_decide_eq_true hk).symm⟩
  · rintro ⟨e, he, hk⟩
    exact ⟨e, he, by rw [h.keq he]; exact decide_eq_true hk.symm⟩

theorem Nmd.put (h : Nmd w P es) {k : Int} {v : FV} (c : Int) (hn : mhas es (nm w k) = false) (hv : fkey v = (w, k)) (hP : P v) :
    mput es (nm w k) v c = es ++ [.agg [nm w k, v, .int .i64 c]] ∧ Nmd w P (mput es (nm w k) v c) := by
  have hne : ∀ e, e ∈ es → Rf.keq (nm w k) (entKey e) = false := fun e he => by
    have := List.any_eq_false.1 hn e he
    simpa using this
  have he := (mput_new hne v c).1
  refine ⟨he, ?_⟩
  rw [he]
  refine ⟨fun e hm => ?_, ?_⟩
  · rcases List.mem_append.1 hm with hm | hm
    · exact h.ent e hm
    · rw [List.mem_singleton] at hm
      exact ⟨k, v, c, hm, hv, hP⟩
  · rw [List.map_append, List.nodup_append]
    refine ⟨h.nod, by simp, fun a ha b hb hab => ?_⟩
    rw [List.mem_map] at ha
    obtain ⟨e, hm, rfl⟩ := ha
    simp only [List.map_cons, List.map_nil, List.mem_singleton, entVal] at hb
    rw [hb, hv] at hab
    have h1 := hne e hm
    rw [h.keq hm, hab] at h1
    simp at h1

theorem Nmd.del (h : Nmd w P es) (k : FV) : Nmd w P (mdel es k) :=
  ⟨fun e he => h.ent e ((mdel_sub k es).subset he), h.nod.sublist ((mdel_sub k es).map _)⟩

theorem Nmd.get (h : Nmd w P es) {k : Int} (z : FV) (hk : mhas es (nm w k) = true) : P (mgetD es (nm w k) z) ∧ fkey (mgetD es (nm w k) z) = (w, k) := by
  obtain ⟨e, q1, q2, q3⟩ := mgetD_mem (z := z) hk
  rw [q2]
  rw [h.keq q1] at q3
  obtain ⟨f1, f2⟩ := h.fst q1
  exact ⟨f2, Prod.ext f1 (of_decide_eq_true q3).symm⟩

end
end Rf
end

section
/- What a book of one participant keeps. -/
set_option linter.unusedSimpArgs false
set_option linter.unusedVariables false
set_option maxHeartbeats 1000000
namespace Rf
open Go

theorem cost_range {b : Bool} {p q : Int} (hp : -1000000 ≤ p ∧ p ≤ 1000000) (hq : 0 ≤ q ∧ q ≤ 16000000) :
    0 ≤ IntKind.wrap .i64 ((if (if b then p else IntKind.wrap .i64 (0 - p)) < 0 then 0 else (if b then p else IntKind.wrap .i64 (0 - p))) * q) ∧
    IntKind.wrap .i64 ((if (if b then p else IntKind.wrap .i64 (0 - p)) < 0 then 0 else (if b then p else IntKind.wrap .i64 (0 - p))) * q) ≤ 16000000000000 := by
  rw [wrap64_id (x := 0 - p) (by omega) (by omega)]
  have hm : ∃ m : Int, (if (if b then p else 0 - p) < 0 then 0 else (if b then p else 0 - p)) = m ∧ 0 ≤ m ∧ m ≤ 1000000 := by
    refine ⟨_, rfl, ?_, ?_⟩ <;> (cases b <;> simp only [Bool.false_eq_true, if_false, if_true] <;> split <;> omega)
  obtain ⟨m, e, h0, h1⟩ := hm
  rw [e]
  have g0 : 0 ≤ m * q := Int.mul_nonneg h0 hq.1
  have g1 : m * q ≤ 1000000 * 16000000 := Int.mul_le_mul h1 hq.2 hq.1 (by omega)
  rw [wrap64_id (by omega) (by omega)]
  omega

theorem sumW_range : ∀ (qs : List Int) (acc : Int), 0 ≤ acc → (∀ q, q ∈ qs → 0 ≤ q ∧ q ≤ 1000000) → acc + 1000000 * qs.length ≤ 1000000000000 → acc ≤ sumW acc qs ∧ sumW acc qs ≤ acc + 1000000 * qs.length
  | [], acc, _, _, _ => by simp [sumW]
  | q :: l, acc, h0, hq, hl => by
    have h1 := hq q (by simp)
    simp only [List.length_cons, Int.natCast_add, Int.natCast_one] at hl ⊢
    simp only [sumW]
    rw [wrap64_id (by omega) (by omega)]
    have := sumW_range l (acc + q) (by omega) (fun x hx => hq x (by simp [hx])) (by omega)
    omega

def stepP (v : FV) : Prop := ∃ x : StF, v = x.fv ∧ (0 ≤ x.e ∧ x.e ≤ 1000000) ∧ (-1000000 ≤ x.f ∧ x.f ≤ 1000000)
def blockP (v : FV) : Prop := ∃ (x : BlF) (qs : List Int), v = x.fv ∧ x.q = qs.map (FV.int .i64) ∧ qs.length ≤ 16 ∧ (∀ q, q ∈ qs → 0 ≤ q ∧ q ≤ 1000000) ∧ (-1000000 ≤ x.d ∧ x.d ≤ 1000000)

/-- the number of the parent -/
def parOf (v : FV) : Int := (blOf v).e

/-- what a book of one participant keeps -/
structure Inv (w : ByteArray) (B : Bk) (tot : Int) : Prop where
  ok : B.Ok
  st : Nmd w stepP B.e0
  bl : Nmd w blockP B.e1
  lk : (B.acc w).lk = tot
  ak : 0 ≤ (B.acc w).ak ∧ (B.acc w).ak ≤ 24
  lk0 : 0 ≤ tot ∧ tot ≤ (B.acc w).ak * 1000000000
  ow1 : (B.acc w).ow ≤ tot
  ow2 : -((B.acc w).ak * 100000000000000) ≤ (B.acc w).ow
  stn : (B.acc w).st = B.e0.length ∧ B.e0.length ≤ 8
  bln : (B.acc w).bl = B.e1.length ∧ B.e1.length ≤ 3
  used : ∀ k, 0 ≤ B.used w k ∧ B.used w k ≤ 1
  use1 : ∀ k, mhas B.e0 (nm w k) = true ∨ mhas B.e1 (nm w k) = true → B.used w k = 1
  par : ∀ e, e ∈ B.e1 → 0 < parOf (entVal e) → mhas B.e1 (nm w (parOf (entVal e))) = true
  who : B.e3 = [] ∨ ∃ e, B.e3 = [e] ∧ entKey e = .str w

theorem inv_empty (w : ByteArray) : Inv w Bk.empty 0 :=
  ⟨empty_ok, Nmd.nil, Nmd.nil, rfl, show (0 : Int) ≤ 0 ∧ (0 : Int) ≤ 24 by decide, show (0 : Int) ≤ 0 ∧ (0 : Int) ≤ 0 * 1000000000 by decide, show (0 : Int) ≤ 0 by decide, show -((0 : Int) * 100000000000000) ≤ 0 by decide,
    ⟨rfl, by decide⟩, ⟨rfl, by decide⟩, fun k => show (0 : Int) ≤ 0 ∧ (0 : Int) ≤ 1 by decide, fun k h => by simp [Bk.empty, mhas] at h, fun e h => by simp [Bk.empty] at h, .inl rfl⟩

theorem who_put {w : ByteArray} {es : List FV} (v : FV) (c : Int) (h : es = [] ∨ ∃ e, es = [e] ∧ entKey e = .str w) : mput es (.str w) v c = [] ∨ ∃ e, mput es (.str w) v c = [e] ∧ entKey e = .str w := by
  rcases h with rfl | ⟨e, rfl, he⟩
  · exact .inr ⟨_, rfl, rfl⟩
  · refine .inr ⟨.agg [.str w, v, .int .i64 (entBorn e)], ?_, rfl⟩
    simp only [mput, he, keq_str, decide_true, cond_true]

section
variable {n : Nat} {B : Bk} {w : ByteArray} {a : Ask}

/-- May of what is no ask -/
theorem may_bad (h : B.Ok) (hk : a.kind < 1 ∨ a.kind > 4) : evF En (n + 2) 42 (B.L ++ .str w :: a.L) = some (B.L ++ [.int .i64 1]) := by
  have hm := named_run (n := n) (w := w) (a := a)
  unfold Ask.L at hm
  unfold Bk.L Ask.L
  simp only [List.cons_append, List.nil_append]
  rw [book_Book_May_eq, hm, h.acc]
  simp only [at_one, FV.cells, Acc.fv, List.getElem?_cons_zero, List.getElem?_cons_succ, asInt_int, asStr_str, Option.bind_some]
  rw [h.step, h.block]
  simp only [at_one, FV.cells, StF.fv, BlF.fv, List.getElem?_cons_zero, List.getElem?_cons_succ, asInt_int, asStr_str, asBool_bool, asLst_list, Option.bind_some]
  by_cases h1 : a.kind < 1
  · rw [decide_eq_true h1, cond_true]
  · rw [decide_eq_false h1, cond_false, decide_eq_true (show a.kind > 4 by omega), cond_true]

theorem acc_mk (B' : Bk) (c : Acc) : (B'.setAcc w c).acc w = c := by rw [acc_setAcc, if_pos rfl]

/-- a lock keeps it -/
theorem inv_lock {tot : Int} (h : Inv w B tot) (hc : 1 ≤ a.cents ∧ a.cents ≤ 1000000000) (ha : (B.acc w).ak < 24) :
    Inv w (B.setAcc w { B.acc w with lk := IntKind.wrap .i64 ((B.acc w).lk + a.cents), ak := IntKind.wrap .i64 ((B.acc w).ak + 1) }) (tot + a.cents) := by
  have hlk := h.lk
  have hak := h.ak
  have hl0 := h.lk0
  have ho1 := h.ow1
  have ho2 := h.ow2
  rw [wrap64_id (x := (B.acc w).lk + a.cents) (by omega) (by omega), wrap64_id (x := (B.acc w).ak + 1) (by omega) (by omega)]
  refine ⟨h.ok.setAcc _, h.st, h.bl, ?_, ?_, ?_, ?_, ?_, ?_, ?_, h.used, h.use1, h.par, who_put _ _ h.who⟩
  all_goals rw [acc_mk]
  · simp only; omega
  · simp only; omega
  · simp only; omega
  · simp only; omega
  · simp only; omega
  · exact h.stn
  · exact h.bln

end
end Rf
end

section
/- Steps and blocks keep it. -/
set_option linter.unusedSimpArgs false
set_option linter.unusedVariables false
set_option maxHeartbeats 1000000
namespace Rf
open Go

section
variable {n : Nat} {B : Bk} {w : ByteArray} {a : Ask}

theorem used_put (m x c k : Int) : inOf (mgetD (mput B.e2 (nm w m) (.int .i64 x) c) (nm w k) (.int .i64 0)) = if k = m then x else B.used w k := by
  rw [mgetD_mput, keq_nm]
  by_cases hk : k = m
  · rw [if_pos hk, decide_eq_true rfl, decide_eq_true hk]; rfl
  · rw [if_neg hk, decide_eq_true rfl, decide_eq_false hk]; rfl

theorem has_put (es : List FV) (v : FV) (m c k : Int) (h : mhas (mput es (nm w m) v c) (nm w k) = true) : k = m ∨ mhas es (nm w k) = true := by
  rw [mhas_mput, keq_nm] at h
  simpa using h

theorem inv_addStep {tot : Int} (h : Inv w B tot) (ha : (B.acc w).ak < 24) (hu : ¬ B.used w a.s1 > 0) (hs : (B.acc w).st < 8) (ho : ¬ IntKind.wrap .i64 ((B.acc w).ow + a.owes) > (B.acc w).lk)
    (h5 : 0 ≤ a.s5 ∧ a.s5 ≤ 1000000) (h6 : -1000000 ≤ a.s6 ∧ a.s6 ≤ 1000000) : Inv w (B.addStep w a) tot := by
  have hlk := h.lk
  have hak := h.ak
  have hl0 := h.lk0
  have ho1 := h.ow1
  have ho2 := h.ow2
  have hst := h.stn
  have hus := h.used a.s1
  have hco : 0 ≤ a.owes ∧ a.owes ≤ 16000000000000 := cost_range h6 ⟨h5.1, by omega⟩
  have hno : mhas B.e0 (nm w a.s1) = false := by
    cases hm : mhas B.e0 (nm w a.s1) with
    | false => rfl
    | true => have := h.use1 a.s1 (.inl hm); omega
  obtain ⟨p1, p2⟩ := h.st.put (v := .agg [.str w, .int .i64 a.s1, .int .i64 a.s2, .int .i64 a.s3, .bool a.sb, .int .i64 a.s5, .int .i64 a.s6]) B.c0 hno rfl ⟨⟨w, a.s1, a.s2, a.s3, a.sb, a.s5, a.s6⟩, rfl, h5, h6⟩
  rw [wrap64_id (x := (B.acc w).ow + a.owes) (by omega) (by omega)] at ho
  have hacc : (B.addStep w a).acc w = { B.acc w with ow := (B.acc w).ow + a.owes, ak := (B.acc w).ak + 1, st := (B.acc w).st + 1 } := by
    unfold Bk.addStep
    rw [acc_mk, wrap64_id (x := (B.acc w).ow + a.owes) (by omega) (by omega), wrap64_id (x := (B.acc w).ak + 1) (by omega) (by omega), wrap64_id (x := (B.acc w).st + 1) (by omega) (by omega)]
  have husd : ∀ k, (B.addStep w a).used w k = if k = a.s1 then 1 else B.used w k := fun k => by
    have := used_put (B := B) (w := w) a.s1 (IntKind.wrap .i64 (B.used w a.s1 + 1)) B.c2 k
    rw [show B.used w a.s1 = 0 by omega, show IntKind.wrap .i64 ((0 : Int) + 1) = 1 from rfl] at this
    rw [← this]
    unfold Bk.addStep
    rw [show B.used w a.s1 = 0 by omega, show IntKind.wrap .i64 ((0 : Int) + 1) = 1 from rfl]
    rfl
  refine ⟨h.ok.addStep, p2, h.bl, ?_, ?_, ?_, ?_, ?_, ?_, ?_, ?_, ?_, h.par, who_put _ _ h.who⟩
  · rw [hacc]; exact hlk
  · rw [hacc]; simp only; omega
  · rw [hacc]; simp only; omega
  · rw [hacc]; simp only; omega
  · rw [hacc]; simp only; omega
  · rw [hacc]
    have : (B.addStep w a).e0.length = B.e0.length + 1 := by
      show (mput B.e0 (nm w a.s1) _ B.c0).length = _
      rw [p1]; simp
    rw [this]; simp only; omega
  · rw [hacc]; exact h.bln
  · intro k
    rw [husd]
    by_cases hk : k = a.s1
    · rw [if_pos hk]; omega
    · rw [if_neg hk]; exact h.used k
  · intro k hk
    rw [husd]
    by_cases hks : k = a.s1
    · rw [if_pos hks]
    · rw [if_neg hks]
      rcases hk with hk | hk
      · rcases has_put _ _ _ _ _ hk with e | hk
        · exact absurd e hks
        · exact h.use1 k (.inl hk)
      · exact h.use1 k (.inr hk)

theorem inv_addBlock {tot : Int} {qs : List Int} (h : Inv w B tot) (ha : (B.acc w).ak < 24) (hu : ¬ B.used w a.b1 > 0) (hs : (B.acc w).bl < 3) (hpar : ¬ (a.b6 > 0 ∧ mhas B.e1 (nm w a.b6) = false))
    (ho : ¬ IntKind.wrap .i64 ((B.acc w).ow + a.owesB qs) > (B.acc w).lk) (h4 : -1000000 ≤ a.b4 ∧ a.b4 ≤ 1000000) (h16 : qs.length ≤ 16) (hq : ∀ q, q ∈ qs → 0 ≤ q ∧ q ≤ 1000000) : Inv w (B.addBlock w a qs) tot := by
  have hlk := h.lk
  have hak := h.ak
  have hl0 := h.lk0
  have ho1 := h.ow1
  have ho2 := h.ow2
  have hst := h.bln
  have hus := h.used a.b1
  have hsum := sumW_range qs 0 (by omega) hq (by omega)
  have hco : 0 ≤ a.owesB qs ∧ a.owesB qs ≤ 16000000000000 := cost_range h4 ⟨hsum.1, by omega⟩
  have hno : mhas B.e1 (nm w a.b1) = false := by
    cases hm : mhas B.e1 (nm w a.b1) with
    | false => rfl
    | true => have := h.use1 a.b1 (.inr hm); omega
  obtain ⟨p1, p2⟩ := h.bl.put (v := .agg [.str w, .int .i64 a.b1, .int .i64 a.b2, .bool a.bb, .int .i64 a.b4, .list 1 (qs.map (FV.int .i64)), .int .i64 a.b6, .int .i64 a.b7]) B.c1 hno rfl
    ⟨⟨w, a.b1, a.b2, a.bb, a.b4, qs.map (FV.int .i64), a.b6, a.b7⟩, qs, rfl, rfl, h16, hq, h4⟩
  rw [wrap64_id (x := (B.acc w).ow + a.owesB qs) (by omega) (by omega)] at ho
  have hacc : (B.addBlock w a qs).acc w = { B.acc w with ow := (B.acc w).ow + a.owesB qs, ak := (B.acc w).ak + 1, bl := (B.acc w).bl + 1 } := by
    unfold Bk.addBlock
    rw [acc_mk, wrap64_id (x := (B.acc w).ow + a.owesB qs) (by omega) (by omega), wrap64_id (x := (B.acc w).ak + 1) (by omega) (by omega), wrap64_id (x := (B.acc w).bl + 1) (by omega) (by omega)]
  have husd : ∀ k, (B.addBlock w a qs).used w k = if k = a.b1 then 1 else B.used w k := fun k => by
    have := used_put (B := B) (w := w) a.b1 (IntKind.wrap .i64 (B.used w a.b1 + 1)) B.c2 k
    rw [show B.used w a.b1 = 0 by omega, show IntKind.wrap .i64 ((0 : Int) + 1) = 1 from rfl] at this
    rw [← this]
    unfold Bk.addBlock
    rw [show B.used w a.b1 = 0 by omega, show IntKind.wrap .i64 ((0 : Int) + 1) = 1 from rfl]
    rfl
  refine ⟨h.ok.addBlock, h.st, p2, ?_, ?_, ?_, ?_, ?_, ?_, ?_, ?_, ?_, ?_, who_put _ _ h.who⟩
  · rw [hacc]; exact hlk
  · rw [hacc]; simp only; omega
  · rw [hacc]; simp only; omega
  · rw [hacc]; simp only; omega
  · rw [hacc]; simp only; omega
  · rw [hacc]; exact h.stn
  · rw [hacc]
    have : (B.addBlock w a qs).e1.length = B.e1.length + 1 := by
      show (mput B.e1 (nm w a.b1) _ B.c1).length = _
      rw [p1]; simp
    rw [this]; simp only; omega
  · intro k
    rw [husd]
    by_cases hk : k = a.b1
    · rw [if_pos hk]; omega
    · rw [if_neg hk]; exact h.used k
  · intro k hk
    rw [husd]
    by_cases hks : k = a.b1
    · rw [if_pos hks]
    · rw [if_neg hks]
      rcases hk with hk | hk
      · exact h.use1 k (.inl hk)
      · rcases has_put _ _ _ _ _ hk with e | hk
        · exact absurd e hks
        · exact h.use1 k (.inr hk)
  · intro e he hp
    show mhas (mput B.e1 (nm w a.b1) _ B.c1) _ = true
    rw [mhas_mput]
    have he' : e ∈ mput B.e1 (nm w a.b1) _ B.c1 := he
    rw [p1] at he'
    rcases List.mem_append.1 he' with he' | he'
    · rw [h.par e he' hp, Bool.or_true]
    · rw [List.mem_singleton] at he'
      subst he'
      have hp' : a.b6 > 0 := hp
      show (_ || mhas B.e1 (nm w a.b6)) = true
      cases hm : mhas B.e1 (nm w a.b6) with
      | true => rw [Bool.or_true]
      | false => exact absurd ⟨hp', hm⟩ hpar

theorem inv_delStep {tot m : Int} (h : Inv w B tot) (ha : (B.acc w).ak < 24) (hm : mhas B.e0 (nm w m) = true) : Inv w (B.delStep w m) tot := by
  have hlk := h.lk
  have hak := h.ak
  have hl0 := h.lk0
  have ho1 := h.ow1
  have ho2 := h.ow2
  have hst := h.stn
  obtain ⟨⟨x, hx, h5, h6⟩, _⟩ := h.st.get zSt hm
  have hxs : B.step w m = x := by unfold Bk.step; rw [hx]; rfl
  have hco : 0 ≤ (B.step w m).ask.owes ∧ (B.step w m).ask.owes ≤ 16000000000000 := by rw [hxs]; exact cost_range h6 (show 0 ≤ x.e ∧ x.e ≤ 16000000 by omega)
  have hlen := mdel_len hm
  have hacc : (B.delStep w m).acc w = { B.acc w with ow := (B.acc w).ow - (B.step w m).ask.owes, ak := (B.acc w).ak + 1, st := (B.acc w).st - 1 } := by
    unfold Bk.delStep
    rw [acc_mk, wrap64_id (x := (B.acc w).ow - (B.step w m).ask.owes) (by omega) (by omega), wrap64_id (x := (B.acc w).ak + 1) (by omega) (by omega), wrap64_id (x := (B.acc w).st - 1) (by omega) (by omega)]
  refine ⟨h.ok.delStep, h.st.del _, h.bl, ?_, ?_, ?_, ?_, ?_, ?_, ?_, h.used, ?_, h.par, who_put _ _ h.who⟩
  · rw [hacc]; exact hlk
  · rw [hacc]; simp only; omega
  · rw [hacc]; simp only; omega
  · rw [hacc]; simp only; omega
  · rw [hacc]; simp only; omega
  · rw [hacc]
    show (B.acc w).st - 1 = ((mdel B.e0 (nm w m)).length : Int) ∧ (mdel B.e0 (nm w m)).length ≤ 8
    omega
  · rw [hacc]; exact h.bln
  · intro k hk
    refine h.use1 k (hk.imp_left fun hk => ?_)
    obtain ⟨e, he, hk⟩ := (h.st.del (nm w m)).has.1 hk
    exact h.st.has.2 ⟨e, (mdel_sub _ _).subset he, hk⟩

theorem inv_delBlock {tot m : Int} {qs : List Int} (h : Inv w B tot) (ha : (B.acc w).ak < 24) (hm : mhas B.e1 (nm w m) = true) (hch : B.e1.any (childB w m) = false) (hq : (B.block w m).q = qs.map (FV.int .i64))
    (hqs : qs.length ≤ 16 ∧ ∀ q, q ∈ qs → 0 ≤ q ∧ q ≤ 1000000) : Inv w (B.delBlock w m qs) tot := by
  have hlk := h.lk
  have hak := h.ak
  have hl0 := h.lk0
  have ho1 := h.ow1
  have ho2 := h.ow2
  have hst := h.bln
  obtain ⟨⟨x, qs', hx, hq', _, _, h4⟩, _⟩ := h.bl.get zBl hm
  have hxs : B.block w m = x := by unfold Bk.block; rw [hx]; rfl
  have hsum := sumW_range qs 0 (by omega) hqs.2 (by omega)
  have hco : 0 ≤ (B.block w m).ask.owesB qs ∧ (B.block w m).ask.owesB qs ≤ 16000000000000 := by rw [hxs]; exact cost_range h4 ⟨hsum.1, by omega⟩
  have hlen := mdel_len hm
  have hacc : (B.delBlock w m qs).acc w = { B.acc w with ow := (B.acc w).ow - (B.block w m).ask.owesB qs, ak := (B.acc w).ak + 1, bl := (B.acc w).bl - 1 } := by
    unfold Bk.delBlock
    rw [acc_mk, wrap64_id (x := (B.acc w).ow - (B.block w m).ask.owesB qs) (by omega) (by omega), wrap64_id (x := (B.acc w).ak + 1) (by omega) (by omega), wrap64_id (x := (B.acc w).bl - 1) (by omega) (by omega)]
  refine ⟨h.ok.delBlock, h.st, h.bl.del _, ?_, ?_, ?_, ?_, ?_, ?_, ?_, h.used, ?_, ?_, who_put _ _ h.who⟩
  · rw [hacc]; exact hlk
  · rw [hacc]; simp only; omega
  · rw [hacc]; simp only; omega
  · rw [hacc]; simp only; omega
  · rw [hacc]; simp only; omega
  · rw [hacc]; exact h.stn
  · rw [hacc]
    show (B.acc w).bl - 1 = ((mdel B.e1 (nm w m)).length : Int) ∧ (mdel B.e1 (nm w m)).length ≤ 3
    omega
  · intro k hk
    refine h.use1 k (hk.imp_right fun hk => ?_)
    obtain ⟨e, he, hk⟩ := (h.bl.del (nm w m)).has.1 hk
    exact h.bl.has.2 ⟨e, (mdel_sub _ _).subset he, hk⟩
  · intro e he hp
    have he1 : e ∈ B.e1 := (mdel_sub _ _).subset he
    obtain ⟨e2, h2, h3⟩ := h.bl.has.1 (h.par e he1 hp)
    refine (h.bl.del (nm w m)).has.2 ⟨e2, mdel_mem h2 ?_, h3⟩
    rw [h.bl.keq h2, h3]
    refine decide_eq_false fun hmp => ?_
    have hc := List.any_eq_false.1 hch e he1
    obtain ⟨k, v, b, rfl, hv, ⟨y, qy, rfl, _⟩⟩ := h.bl.ent e he1
    refine hc ?_
    have hpy : parOf (entVal (.agg [nm w k, y.fv, .int .i64 b])) = y.e := rfl
    rw [hpy] at hmp hp
    show (decide (w = w) && decide (y.e = m) && decide (0 < m)) = true
    rw [decide_eq_true hmp.symm, decide_eq_true (show 0 < m by omega)]; simp

end
end Rf
end

section
/- Add keeps it. -/
set_option linter.unusedSimpArgs false
set_option linter.unusedVariables false
set_option maxHeartbeats 1000000
namespace Rf
open Go

section
variable {n : Nat} {B : Bk} {w : ByteArray} {a : Ask}

theorem Inv.okN {tot : Int} (h : Inv w B tot) : B.OkN := by
  refine ⟨List.all_eq_true.2 fun x hx => ?_, List.all_eq_true.2 fun x hx => ?_⟩
  · obtain ⟨e, he, rfl⟩ := List.mem_map.1 hx
    obtain ⟨k, v, b, rfl, _, _⟩ := h.bl.ent e he
    rfl
  · obtain ⟨e, he, rfl⟩ := List.mem_map.1 hx
    obtain ⟨_, y, qy, hy, _⟩ := h.bl.fst he
    rw [hy]; rfl

theorem add_any {tot : Int} {qs : List Int} (h : Inv w B tot) (hq : a.bq = qs.map (FV.int .i64)) (hS : Small a qs) (h5 : 0 ≤ a.s5) (hq0 : ∀ q, q ∈ qs → 0 ≤ q) :
    ∃ (B' : Bk) (e : Int), evF En (n + 20) 20 (B.L ++ .str w :: a.L) = some (B'.L ++ [.int .i64 e]) ∧ Inv w B' (if a.kind = 1 ∧ e = 0 then tot + a.cents else tot) := by
  have hl := hS.len
  by_cases hbad : a.kind < 1 ∨ a.kind > 4
  · exact ⟨B, 1, add_no (by decide) (may_bad (n := n + 17) h.ok hbad), by rw [if_neg (by omega)]; exact h⟩
  by_cases k1 : a.kind = 1
  · have hm := may_lock (n := n + 17) (w := w) h.ok k1
    by_cases g1 : (B.acc w).ak ≥ 24
    · rw [if_pos g1] at hm
      exact ⟨B, 101, add_no (by decide) hm, by rw [if_neg (by omega)]; exact h⟩
    rw [if_neg g1] at hm
    by_cases g2 : a.cents < 1 ∨ a.cents > 1000000000
    · rw [if_pos g2] at hm
      exact ⟨B, 1, add_no (by decide) hm, by rw [if_neg (by omega)]; exact h⟩
    rw [if_neg g2] at hm
    exact ⟨_, 0, add_lock (n := n + 18) h.ok k1 hm, by rw [if_pos ⟨k1, rfl⟩]; exact inv_lock h (by omega) (by omega)⟩
  by_cases k2 : a.kind = 2
  · have hm := may_step (n := n + 17) (w := w) h.ok k2
    by_cases g1 : (B.acc w).ak ≥ 24
    · rw [if_pos g1] at hm
      exact ⟨B, 101, add_no (by decide) hm, by rw [if_neg (by omega)]; exact h⟩
    rw [if_neg g1] at hm
    by_cases g2 : B.used w a.s1 > 0
    · rw [if_pos g2] at hm
      exact ⟨B, 100, add_no (by decide) hm, by rw [if_neg (by omega)]; exact h⟩
    rw [if_neg g2] at hm
    by_cases g3 : (B.acc w).st ≥ 8
    · rw [if_pos g3] at hm
      exact ⟨B, 101, add_no (by decide) hm, by rw [if_neg (by omega)]; exact h⟩
    rw [if_neg g3] at hm
    by_cases g4 : IntKind.wrap .i64 ((B.acc w).ow + a.owes) > (B.acc w).lk
    · rw [if_pos g4] at hm
      exact ⟨B, 221, add_no (by decide) hm, by rw [if_neg (by omega)]; exact h⟩
    rw [if_neg g4] at hm
    exact ⟨_, 0, add_step (n := n + 18) h.ok k2 hm, by rw [if_neg (by omega)]; exact inv_addStep h (by omega) g2 (by omega) g4 ⟨h5, hS.s5.2⟩ hS.s6⟩
  by_cases k3 : a.kind = 3
  · have hm := may_block (n := n + 17) (w := w) h.ok k3 hq (by omega) (by omega)
    by_cases g1 : (B.acc w).ak ≥ 24
    · rw [if_pos g1] at hm
      exact ⟨B, 101, add_no (by decide) hm, by rw [if_neg (by omega)]; exact h⟩
    rw [if_neg g1] at hm
    by_cases g2 : B.used w a.b1 > 0
    · rw [if_pos g2] at hm
      exact ⟨B, 100, add_no (by decide) hm, by rw [if_neg (by omega)]; exact h⟩
    rw [if_neg g2] at hm
    by_cases g3 : (B.acc w).bl ≥ 3
    · rw [if_pos g3] at hm
      exact ⟨B, 101, add_no (by decide) hm, by rw [if_neg (by omega)]; exact h⟩
    rw [if_neg g3] at hm
    by_cases g5 : a.b6 > 0 ∧ mhas B.e1 (nm w a.b6) = false
    · rw [if_pos g5] at hm
      exact ⟨B, 103, add_no (by decide) hm, by rw [if_neg (by omega)]; exact h⟩
    rw [if_neg g5] at hm
    by_cases g4 : IntKind.wrap .i64 ((B.acc w).ow + a.owesB qs) > (B.acc w).lk
    · rw [if_pos g4] at hm
      exact ⟨B, 221, add_no (by decide) hm, by rw [if_neg (by omega)]; exact h⟩
    rw [if_neg g4] at hm
    exact ⟨_, 0, add_block (n := n + 18) h.ok k3 hq (by omega) (by omega) hm, by
      rw [if_neg (by omega)]; exact inv_addBlock h (by omega) g2 (by omega) g5 g4 hS.b4 hl fun q hqm => ⟨hq0 q hqm, (hS.q q hqm).2⟩⟩
  have k4 : a.kind = 4 := by omega
  have hm := may_cancel (n := n + 16) (w := w) h.ok h.okN k4
  by_cases g1 : (B.acc w).ak ≥ 24
  · rw [if_pos g1] at hm
    exact ⟨B, 101, add_no (by decide) hm, by rw [if_neg (by omega)]; exact h⟩
  rw [if_neg g1] at hm
  by_cases g2 : mhas B.e0 (nm w a.seq) = false ∧ mhas B.e1 (nm w a.seq) = false
  · rw [if_pos g2] at hm
    exact ⟨B, 102, add_no (by decide) hm, by rw [if_neg (by omega)]; exact h⟩
  rw [if_neg g2] at hm
  by_cases g3 : mhas B.e1 (nm w a.seq) = true ∧ B.e1.any (childB w a.seq) = true
  · rw [if_pos g3] at hm
    exact ⟨B, 103, add_no (by decide) hm, by rw [if_neg (by omega)]; exact h⟩
  rw [if_neg g3] at hm
  cases h0 : mhas B.e0 (nm w a.seq) with
  | true => exact ⟨_, 0, add_cancel_step (n := n + 18) h.ok k4 h0 hm, by rw [if_neg (by omega)]; exact inv_delStep h (by omega) h0⟩
  | false =>
    have h1 : mhas B.e1 (nm w a.seq) = true := by
      cases hx : mhas B.e1 (nm w a.seq) with
      | true => rfl
      | false => exact absurd ⟨h0, hx⟩ g2
    have hc : B.e1.any (childB w a.seq) = false := by
      cases hx : B.e1.any (childB w a.seq) with
      | false => rfl
      | true => exact absurd ⟨h1, hx⟩ g3
    obtain ⟨⟨x, qs', hx, hq', hl', hr', _⟩, _⟩ := h.bl.get zBl h1
    have hb : (B.block w a.seq).q = qs'.map (FV.int .i64) := by unfold Bk.block; rw [hx]; exact hq'
    exact ⟨_, 0, add_cancel_block (n := n + 18) h.ok k4 h0 hb (by omega) (by omega) hm, by rw [if_neg (by omega)]; exact inv_delBlock h (by omega) h1 hc hb ⟨hl', hr'⟩⟩

end
end Rf
end

section
/- The blocks of a book, looked through. -/
set_option linter.unusedSimpArgs false
set_option linter.unusedVariables false
set_option maxHeartbeats 1000000
namespace Rf
open Go

section
variable {n : Nat} {l0 e1 e2 e3 e4 : List FV} {x1 x2 x3 x4 x5 x6 : Int} {bs : List BlF}

theorem b_at (i c : Nat) (h : i < bs.length) : at' (bs.map BlF.fv) i c = (bs[i].fv).cells[c]? := by rw [at_map, List.getElem?_eq_getElem h]; rfl

theorem l22_run {m0 m1 : Nat} (hs : bs.Pairwise (fun x y => x.a < y.a)) (hl : bs.length ≤ 3) {i : Nat} (hi : i < bs.length) : ∀ (d j m : Nat) (met : Bool), j + d = bs.length → d < m → (met = true ∨ ∃ k, ∃ hk : k < bs.length, j ≤ k ∧ bs[k].a = bs[i].e) →
    noonbelllaw10_BookOwes.l22 n [m0, m1] m [.list 19 l0, .list 3 e1, .int .i64 x1, .list 3 e2, .int .i64 x2, .list 3 e3, .int .i64 x3, .list 3 e4, .int .i64 x4, .int .i64 x5, .int .i64 x6, .list 8 (bs.map BlF.fv), .int .i64 (i : Int), .bool met, .int .i64 (j : Int)] =
    noonbelllaw10_BookOwes.l18 n [m0] m1 [.list 19 l0, .list 3 e1, .int .i64 x1, .list 3 e2, .int .i64 x2, .list 3 e3, .int .i64 x3, .list 3 e4, .int .i64 x4, .int .i64 x5, .int .i64 x6, .list 8 (bs.map BlF.fv), .int .i64 ((i + 1 : Nat) : Int)] := by
  intro d
  induction d with
  | zero =>
    intro j m met hj hm hmet
    obtain ⟨m, rfl⟩ : ∃ k, m = k + 1 := ⟨m - 1, by omega⟩
    have : met = true := by
      rcases hmet with h | ⟨k, hk, hjk, _⟩
      · exact h
      · omega
    subst this
    rw [noonbelllaw10_BookOwes.l22_eq, List.length_map, show decide ((j : Int) < (bs.length : Int)) = false from decide_eq_false (by omega), cond_false, Bool.not_true, cond_false, wrap_succ (by omega)]
  | succ d ih =>
    intro j m met hj hm hmet
    obtain ⟨m, rfl⟩ : ∃ k, m = k + 1 := ⟨m - 1, by omega⟩
    have hlt : j < bs.length := by omega
    rw [noonbelllaw10_BookOwes.l22_eq, List.length_map, show decide ((j : Int) < (bs.length : Int)) = true from decide_eq_true (by omega), cond_true]
    have g1 : at' (bs.map BlF.fv) j 1 = some (.int .i64 bs[j].a) := b_at j 1 hlt
    have g2 : at' (bs.map BlF.fv) i 1 = some (.int .i64 bs[i].a) := b_at i 1 hi
    have g3 : at' (bs.map BlF.fv) i 6 = some (.int .i64 bs[i].e) := b_at i 6 hi
    have hge : j < i → ¬ (bs[j].a ≥ bs[i].a) := fun hji => by
      have := List.pairwise_iff_getElem.1 hs j i hlt hi hji
      omega
    simp only [ix_nat hlt, ix_nat hi, Option.bind_some, g1, g2, g3, asInt_int]
    rw [wrap_succ (by omega)]
    cases met with
    | true =>
      rw [cond_true]
      have := ih (j + 1) m true (by omega) (by omega) (.inl rfl)
      by_cases hji : j < i
      · rw [show decide ((j : Int) < (i : Int)) = true from decide_eq_true (by omega), cond_true, decide_eq_false (hge hji), cond_false, this]
      · rw [show decide ((j : Int) < (i : Int)) = false from decide_eq_false (by omega), cond_false, this]
    | false =>
      rw [cond_false]
      have := ih (j + 1) m (bs[j].a == bs[i].e) (by omega) (by omega) (by
        rcases hmet with h | ⟨k, hk, hjk, he⟩
        · cases h
        · by_cases hkj : k = j
          · subst hkj; exact .inl (by rw [he, beq_self_eq_true])
          · exact .inr ⟨k, hk, by omega, he⟩)
      by_cases hji : j < i
      · rw [show decide ((j : Int) < (i : Int)) = true from decide_eq_true (by omega), cond_true, decide_eq_false (hge hji), cond_false, this]
      · rw [show decide ((j : Int) < (i : Int)) = false from decide_eq_false (by omega), cond_false, this]

theorem l18_run {m0 : Nat} (hs : bs.Pairwise (fun x y => x.a < y.a)) (hl : bs.length ≤ 3) (hp : ∀ x, x ∈ bs → 0 < x.e → ∃ y, y ∈ bs ∧ y.a = x.e) (hn : 3 < n) : ∀ (d i m : Nat), i + d = bs.length → d < m →
    noonbelllaw10_BookOwes.l18 n [m0] m [.list 19 l0, .list 3 e1, .int .i64 x1, .list 3 e2, .int .i64 x2, .list 3 e3, .int .i64 x3, .list 3 e4, .int .i64 x4, .int .i64 x5, .int .i64 x6, .list 8 (bs.map BlF.fv), .int .i64 (i : Int)] =
    noonbelllaw10_BookOwes.l6 n [] m0 [.list 19 l0, .list 3 e1, .int .i64 x1, .list 3 e2, .int .i64 x2, .list 3 e3, .int .i64 x3, .list 3 e4, .int .i64 x4, .int .i64 x5, .int .i64 (IntKind.wrap .i64 (x6 + 1))] := by
  intro d
  induction d with
  | zero =>
    intro i m hi hm
    obtain ⟨m, rfl⟩ : ∃ k, m = k + 1 := ⟨m - 1, by omega⟩
    rw [noonbelllaw10_BookOwes.l18_eq, List.length_map, show decide ((i : Int) < (bs.length : Int)) = false from decide_eq_false (by omega), cond_false]
  | succ d ih =>
    intro i m hi hm
    obtain ⟨m, rfl⟩ : ∃ k, m = k + 1 := ⟨m - 1, by omega⟩
    have hlt : i < bs.length := by omega
    rw [noonbelllaw10_BookOwes.l18_eq, List.length_map, show decide ((i : Int) < (bs.length : Int)) = true from decide_eq_true (by omega), cond_true]
    have g3 : at' (bs.map BlF.fv) i 6 = some (.int .i64 bs[i].e) := b_at i 6 hlt
    simp only [ix_nat hlt, Option.bind_some, g3, asInt_int]
    have := l22_run (n := n) (l0 := l0) (e1 := e1) (e2 := e2) (e3 := e3) (e4 := e4) (x1 := x1) (x2 := x2) (x3 := x3) (x4 := x4) (x5 := x5) (x6 := x6) (m0 := m0) (m1 := m) hs hl hlt bs.length 0 n (decide (bs[i].e ≤ 0)) (by omega) (by omega) (by
      by_cases h0 : bs[i].e ≤ 0
      · exact .inl (decide_eq_true h0)
      · obtain ⟨y, hy, hye⟩ := hp bs[i] (List.getElem_mem _) (by omega)
        obtain ⟨k, hk, rfl⟩ := List.mem_iff_getElem.1 hy
        exact .inr ⟨k, hk, by omega, hye⟩)
    rw [show (((0 : Nat) : Int)) = 0 from rfl] at this
    rw [this]
    exact ih (i + 1) m (by omega) (by omega)

theorem Inv.blocks {w : ByteArray} {B : Bk} {tot : Int} (h : Inv w B tot) : ∃ bs : List BlF, evF En (n + 1) 30 B.L = some (B.L ++ [.list 8 (bs.map BlF.fv)]) ∧ bs.length ≤ 3 ∧ bs.Pairwise (fun x y => x.a < y.a) ∧ (∀ x, x ∈ bs → 0 < x.e → ∃ y, y ∈ bs ∧ y.a = x.e) := by
  have hr := blocks_run (n := n) (B := B) (by have := h.bln.2; omega) h.okN.v1 (List.all_eq_true.2 fun x hx => by
    obtain ⟨e, he, rfl⟩ := List.mem_map.1 hx
    obtain ⟨_, y, qy, hy, hq, hl, _⟩ := h.bl.fst he
    rw [hy]
    show decide (y.q.length ≤ 1000000000) = true
    rw [hq, List.length_map]
    exact decide_eq_true (by omega)) h.bl.nod
  obtain ⟨p1, p2⟩ := isort_ok fless_ok (B.e1.map entVal)
  have hv : ∀ v, v ∈ isort fless (B.e1.map entVal) → ∃ e, e ∈ B.e1 ∧ v = entVal e ∧ v = (blOf v).fv ∧ fkey v = (w, (blOf v).a) := fun v hv => by
    obtain ⟨e, he, rfl⟩ := List.mem_map.1 (p1.mem_iff.1 hv)
    obtain ⟨f1, y, qy, hy, _⟩ := h.bl.fst he
    refine ⟨e, he, rfl, ?_, ?_⟩
    · rw [hy]; rfl
    · rw [hy] at f1 ⊢
      exact Prod.ext f1 rfl
  refine ⟨(isort fless (B.e1.map entVal)).map blOf, ?_, ?_, ?_, ?_⟩
  · rw [hr, List.map_map]
    have : (isort fless (B.e1.map entVal)).map (BlF.fv ∘ blOf) = isort fless (B.e1.map entVal) := by
      conv => rhs; rw [← List.map_id (isort fless (B.e1.map entVal))]
      refine List.map_congr_left fun v hvm => ?_
      obtain ⟨_, _, _, q, _⟩ := hv v hvm
      exact q.symm
    rw [this]
  · rw [List.length_map, p1.length_eq, List.length_map]; exact h.bln.2
  · rw [List.pairwise_map]
    have hnd : ((isort fless (B.e1.map entVal)).map fkey).Nodup := by
      have := h.bl.nod
      rw [show (fun e => fkey (entVal e)) = fkey ∘ entVal from rfl, ← List.map_map] at this
      exact (p1.map fkey).nodup_iff.2 this
    rw [List.Nodup, List.pairwise_map] at hnd
    refine (p2.and hnd).imp_of_mem fun {x y} hx hy hxy => ?_
    obtain ⟨_, _, _, _, kx⟩ := hv x hx
    obtain ⟨_, _, _, _, ky⟩ := hv y hy
    obtain ⟨c1, c2⟩ := hxy
    unfold fless at c1
    rw [kx, ky] at c1 c2
    rw [kle_iff] at c1
    have d1 := c1.2 rfl
    simp only at d1
    have d2 : (blOf x).a ≠ (blOf y).a := fun e => c2 (by rw [e])
    omega
  · intro x hx hpos
    obtain ⟨v, hvm, rfl⟩ := List.mem_map.1 hx
    obtain ⟨e, he, rfl, _, _⟩ := hv v hvm
    obtain ⟨e2, h2, h3⟩ := h.bl.has.1 (h.par e he hpos)
    have hm2 : entVal e2 ∈ isort fless (B.e1.map entVal) := p1.mem_iff.2 (List.mem_map_of_mem h2)
    refine ⟨blOf (entVal e2), List.mem_map_of_mem hm2, ?_⟩
    obtain ⟨_, _, _, _, k2⟩ := hv _ hm2
    rw [k2] at h3
    exact h3

end
end Rf
end

section
/- BookOwes: the script. -/
set_option linter.unusedSimpArgs false
set_option linter.unusedVariables false
set_option maxHeartbeats 1000000
namespace Rf
open Go

theorem Inv.steps {n : Nat} {w : ByteArray} {B : Bk} {tot : Int} (h : Inv w B tot) : ∃ ss : List FV, evF En (n + 1) 24 B.L = some (B.L ++ [.list 7 ss]) ∧ ss.length ≤ 8 := by
  have hr := steps_run (n := n) (B := B) (by have := h.stn.2; omega) (List.all_eq_true.2 fun x hx => by
    obtain ⟨e, he, rfl⟩ := List.mem_map.1 hx
    obtain ⟨_, y, hy, _⟩ := h.st.fst he
    rw [hy]; rfl) h.st.nod
  obtain ⟨p1, _⟩ := isort_ok fless_ok (B.e0.map entVal)
  exact ⟨_, hr, by rw [p1.length_eq, List.length_map]; exact h.stn.2⟩

theorem Inv.whos {n : Nat} {w : ByteArray} {B : Bk} {tot : Int} (h : Inv w B tot) : ∃ ss : List FV, evF En (n + 1) 31 B.L = some (B.L ++ [.list 1 ss]) ∧ ss.length ≤ 1 := by
  rcases h.who with h0 | ⟨e, h0, he⟩
  · exact ⟨_, who_run (n := n) (B := B) (by simp [h0]) (by simp [h0]) (by simp [h0]), by rw [h0]; exact Nat.zero_le _⟩
  · exact ⟨_, who_run (n := n) (B := B) (by simp [h0]) (by rw [h0]; simp [he, strOk]) (by simp [h0]), by rw [h0]; exact Nat.le_refl _⟩

def whoB : ByteArray := { data := #[119, 104, 111] }
def noB : ByteArray := { data := #[110, 111, 98, 111, 100, 121] }

theorem Inv.nobody {B : Bk} {tot : Int} (h : Inv whoB B tot) : (B.acc noB).ow = 0 := by
  unfold Bk.acc
  rcases h.who with h0 | ⟨e, h0, he⟩
  · rw [h0]; rfl
  · rw [h0]
    simp only [mgetD, he, keq_str, show decide (noB = whoB) = false from by decide, cond_false]
    rfl

theorem l6_run {N n : Nat} (hN : N = n + 40) {l : List Stp} (hlen : l.length ≤ 256) : ∀ (d i m : Nat) (B : Bk) (tot : Int), i + d = l.length → d < m → Inv whoB B tot →
    noonbelllaw10_BookOwes.l6 N [] m [.list 19 (l.map Stp.fv), .list 3 B.e0, .int .i64 B.c0, .list 3 B.e1, .int .i64 B.c1, .list 3 B.e2, .int .i64 B.c2, .list 3 B.e3, .int .i64 B.c3, .int .i64 tot, .int .i64 (i : Int)] = some [.bool true] := by
  intro d
  induction d with
  | zero =>
    intro i m B tot hi hm hI
    obtain ⟨m, rfl⟩ : ∃ k, m = k + 1 := ⟨m - 1, by omega⟩
    rw [noonbelllaw10_BookOwes.l6_eq, List.length_map, show decide ((i : Int) < (l.length : Int)) = false from decide_eq_false (by omega), cond_false]
    have f1 := owes_run (n := n + 39) (w := noB) hI.ok
    obtain ⟨ss, f2, f3⟩ := hI.whos (n := n + 39)
    rw [show n + 39 + 1 = N by omega] at f1 f2
    rw [hI.nobody] at f1
    unfold Bk.L noB at f1
    unfold Bk.L at f2
    simp only [List.cons_append, List.nil_append] at f1 f2
    have g : decide ((ss.length : Int) ≤ 1) = true := decide_eq_true (by omega)
    simp only [f1, f2, Option.bind_some, List.getElem?_cons_zero, List.getElem?_cons_succ, asLst_list, asInt_int, g]
    rfl
  | succ d ih =>
    intro i m B tot hi hm hI
    obtain ⟨m, rfl⟩ : ∃ k, m = k + 1 := ⟨m - 1, by omega⟩
    have hlt : i < l.length := by omega
    rw [noonbelllaw10_BookOwes.l6_eq, List.length_map, show decide ((i : Int) < (l.length : Int)) = true from decide_eq_true (by omega), cond_true]
    have hel : ∀ c, at' (l.map Stp.fv) i c = (Stp.fv l[i]).cells[c]? := fun c => by rw [at_map, List.getElem?_eq_getElem hlt]; rfl
    generalize l[i] = s at hel
    obtain ⟨w0, a, qs, hq⟩ := s
    have hN1 : n + 39 + 1 = N := by omega
    obtain ⟨r, g1, g2⟩ := great_run (n := n + 39) (a := a) hq (by omega)
    rw [hN1] at g1
    unfold Ask.L at g1
    simp only [ix_nat hlt, Option.bind_some, hel, Stp.fv, Ask.L, FV.cells, List.getElem?_cons_zero, List.getElem?_cons_succ, asInt_int, asStr_str, asBool_bool, asLst_list]
    rw [g1]
    simp only [Option.bind_some, List.getElem?_cons_zero, asBool_bool]
    cases r with
    | true => rw [cond_true]
    | false =>
    rw [cond_false]
    have hS := g2 rfl
    by_cases h5 : a.s5 < 0
    · rw [decide_eq_true h5, cond_true]
    rw [decide_eq_false h5, cond_false]
    obtain ⟨r, g3, g4⟩ := below_run (n := n + 39) (qs := qs) hS.len (by omega)
    rw [hN1, ← hq] at g3
    rw [g3]
    simp only [Option.bind_some, List.getElem?_cons_zero, asBool_bool]
    cases r with
    | true => rw [cond_true]
    | false =>
    rw [cond_false]
    have hq0 := g4 rfl
    obtain ⟨B', e, a1, hI'⟩ := add_any (n := n + 20) hI hq hS (by omega) hq0
    rw [show n + 20 + 20 = N by omega] at a1
    unfold Bk.L Ask.L whoB at a1
    simp only [List.cons_append, List.nil_append] at a1
    rw [a1]
    simp only [Option.bind_some, List.getElem?_cons_zero, List.getElem?_cons_succ, asLst_list, asInt_int]
    obtain ⟨T, hT⟩ : ∃ T, (if a.kind = 1 ∧ e = 0 then tot + a.cents else tot) = T := ⟨_, rfl⟩
    rw [hT] at hI'
    have hlk := locked_run (n := n + 39) (w := whoB) hI'.ok
    have how := owes_run (n := n + 39) (w := whoB) hI'.ok
    have hak := asks_run (n := n + 39) (w := whoB) hI'.ok
    obtain ⟨ss, hst, hss⟩ := hI'.steps (n := n + 39)
    obtain ⟨bs, hbl, b2, b3, b4⟩ := hI'.blocks (n := n + 39)
    rw [hN1] at hlk how hak hst hbl
    rw [hI'.lk] at hlk
    have hl0 := hI'.lk0
    have ha0 := hI'.ak
    have ho1 := hI'.ow1
    generalize (B'.acc whoB).ow = O at how ho1
    generalize (B'.acc whoB).ak = A at hak ha0 hl0
    unfold Bk.L whoB at hlk how hak
    unfold Bk.L at hst hbl
    simp only [List.cons_append, List.nil_append] at hlk how hak hst hbl
    have c2 : decide (O > (if 0 < T then T else 0)) = false := decide_eq_false (by split <;> omega)
    have c3 : decide (A > 24) = false := decide_eq_false (by omega)
    have c4 : decide ((ss.length : Int) > 8) = false := decide_eq_false (by omega)
    have c5 : decide (((bs.map BlF.fv).length : Int) > 3) = false := decide_eq_false (by rw [List.length_map]; omega)
    have c1 : (T != T) = false := bne_self_eq_false T
    by_cases k1 : a.kind = 1
    · rw [k1, show ((1 : Int) == 1) = true from rfl, cond_true]
      by_cases k0 : e = 0
      · rw [k0, show ((0 : Int) == 0) = true from rfl, cond_true]
        rw [if_pos ⟨k1, k0⟩] at hT
        rw [wrap64_id (x := tot + a.cents) (by omega) (by omega), hT]
        simp only [hlk, how, hak, hst, hbl, Option.bind_some, List.getElem?_cons_zero, List.getElem?_cons_succ, asLst_list, asInt_int, c1, c2, c3, c4, c5, cond_false]
        have hz := l18_run (n := N) (m0 := m) (l0 := l.map Stp.fv) (e1 := B'.e0) (e2 := B'.e1) (e3 := B'.e2) (e4 := B'.e3) (x1 := B'.c0) (x2 := B'.c1) (x3 := B'.c2) (x4 := B'.c3) (x5 := T) (x6 := (i : Int)) b3 b2 b4 (by omega) bs.length 0 N (by omega) (by omega)
        rw [show (((0 : Nat) : Int)) = 0 from rfl, wrap_succ (by omega)] at hz
        rw [hz]
        exact ih (i + 1) m B' T (by omega) (by omega) hI'
      · rw [show (e == 0) = false from beq_eq_false_iff_ne.2 k0, cond_false]
        rw [if_neg (by omega)] at hT
        subst hT
        simp only [hlk, how, hak, hst, hbl, Option.bind_some, List.getElem?_cons_zero, List.getElem?_cons_succ, asLst_list, asInt_int, c1, c2, c3, c4, c5, cond_false]
        have hz := l18_run (n := N) (m0 := m) (l0 := l.map Stp.fv) (e1 := B'.e0) (e2 := B'.e1) (e3 := B'.e2) (e4 := B'.e3) (x1 := B'.c0) (x2 := B'.c1) (x3 := B'.c2) (x4 := B'.c3) (x5 := tot) (x6 := (i : Int)) b3 b2 b4 (by omega) bs.length 0 N (by omega) (by omega)
        rw [show (((0 : Nat) : Int)) = 0 from rfl, wrap_succ (by omega)] at hz
        rw [hz]
        exact ih (i + 1) m B' tot (by omega) (by omega) hI'
    · rw [show (a.kind == 1) = false from beq_eq_false_iff_ne.2 k1, cond_false]
      rw [if_neg (by omega)] at hT
      subst hT
      simp only [hlk, how, hak, hst, hbl, Option.bind_some, List.getElem?_cons_zero, List.getElem?_cons_succ, asLst_list, asInt_int, c1, c2, c3, c4, c5, cond_false]
      have hz := l18_run (n := N) (m0 := m) (l0 := l.map Stp.fv) (e1 := B'.e0) (e2 := B'.e1) (e3 := B'.e2) (e4 := B'.e3) (x1 := B'.c0) (x2 := B'.c1) (x3 := B'.c2) (x4 := B'.c3) (x5 := tot) (x6 := (i : Int)) b3 b2 b4 (by omega) bs.length 0 N (by omega) (by omega)
      rw [show (((0 : Nat) : Int)) = 0 from rfl, wrap_succ (by omega)] at hz
      rw [hz]
      exact ih (i + 1) m B' tot (by omega) (by omega) hI'

theorem owes_pure (L : List FV) (h : All2 Fits [.lst true 192 stpShp] L) : ∃ n, evF En n 8 L = some [.bool true] := by
  obtain ⟨x2, r2, rfl, h2, h⟩ := h.cons_inv
  obtain rfl := h.nil_inv
  obtain ⟨l, rfl, hlen, _⟩ := h2.lst_map Stp.fv (R := fun _ => True) fun cs hcs => stp_of hcs
  obtain ⟨r, hr, hr2⟩ := heavy_run (n := l.length + 1000) (l := l) (by omega) l.length 0 (l.length + 1000) (l.length : Int) (by omega) (by omega)
  refine ⟨l.length + 1002, ?_⟩
  show evF En (l.length + 1001 + 1) 8 [.list 19 (l.map Stp.fv)] = some [.bool true]
  rw [noonbelllaw10_BookOwes_eq, noonbelllaw10_heavy_eq, List.length_map]
  rw [show (((0 : Nat) : Int)) = 0 from rfl] at hr
  rw [hr, Option.bind_some]
  simp only [List.getElem?_cons_zero, asBool_bool, Option.bind_some]
  cases r with
  | true => rw [cond_true]
  | false =>
    rw [cond_false]
    have hnew := new_run (n := l.length + 1000)
    unfold Bk.L at hnew
    rw [hnew]
    simp only [Option.bind_some, List.getElem?_cons_zero, List.getElem?_cons_succ, asLst_list, asInt_int]
    have := l6_run (N := l.length + 1001) (n := l.length + 961) (by omega) (hr2 rfl) l.length 0 (l.length + 1001) Bk.empty 0 (by omega) (by omega) (inv_empty whoB)
    rw [show (((0 : Nat) : Int)) = 0 from rfl] at this
    exact this

end Rf
end
