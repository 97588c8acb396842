/- Made by a program of this work: what each function comes to, one step of it; by the kernel. -/
import Derived.Test.YtlenaaghkiedbaaRfEnv
import Derived.KernelRfl
set_option linter.unusedVariables false
set_option maxRecDepth 100000
set_option maxHeartbeats 4000000
namespace Rf
open Go

noncomputable def book_Book_Blocks.l3 (n : Nat) (ms : List Nat) (m : Nat) (L : List FV) : Res := Lp En1 n 30 [1, 1, 0, 1, 0] ms m L
theorem book_Book_Blocks.l3_eq (n m : Nat) (e0 : List FV) (x0 : Int) (e1 : List FV) (x1 : Int) (e2 : List FV) (x2 : Int) (e3 : List FV) (x3 : Int) (l4 : List FV) (x5 : Int) (x6 : Int) : book_Book_Blocks.l3 n [] (m + 1) [.list 3 e0, .int .i64 x0, .list 3 e1, .int .i64 x1, .list 3 e2, .int .i64 x2, .list 3 e3, .int .i64 x3, .list 8 l4, .int .i64 x5, .int .i64 x6] = 
  (bif (decide (x6 < x5)) then (ix x6 l4.length).bind fun i0 => (asLst 1 (at' l4 i0 5)).bind fun v1 => (evF En1 n 44 [.list 1 v1]).bind fun r2 => (asLst 1 (r2[0]?)).bind fun v3 => (ix x6 l4.length).bind fun i4 => book_Book_Blocks.l3 n [] m [.list 3 e0, .int .i64 x0, .list 3 e1, .int .i64 x1, .list 3 e2, .int .i64 x2, .list 3 e3, .int .i64 x3, .list 8 (setC l4 i4 5 (.list 1 v3)), .int .i64 x5, .int .i64 (Go.IntKind.wrap .i64 (x6 + 1))]
   else some [.list 3 e0, .int .i64 x0, .list 3 e1, .int .i64 x1, .list 3 e2, .int .i64 x2, .list 3 e3, .int .i64 x3, .list 8 l4]) := by kernel_rfl
theorem book_Book_Blocks_eq (n : Nat) (e0 : List FV) (x0 : Int) (e1 : List FV) (x1 : Int) (e2 : List FV) (x2 : Int) (e3 : List FV) (x3 : Int) : evF En1 (n + 1) 30 [.list 3 e0, .int .i64 x0, .list 3 e1, .int .i64 x1, .list 3 e2, .int .i64 x2, .list 3 e3, .int .i64 x3] = none := by kernel_rfl

end Rf
