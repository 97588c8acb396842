/- Made by a program of this work: what each function comes to, one step of it; by the kernel. -/
import Derived.Test.YtebaohjeodeaoaaGreatDoorRfEnv
import Derived.KernelRfl
set_option linter.unusedVariables false
set_option maxRecDepth 100000
set_option maxHeartbeats 4000000
namespace Rf
open Go

noncomputable def noonbellref01_Of.l2 (n : Nat) (ms : List Nat) (m : Nat) (L : List FV) : Res := Lp En n 65 [1, 1, 0, 0] ms m L
theorem noonbellref01_Of.l2_eq (n m : Nat) (l0 : List FV) (x1 : Int) (l2 : List FV) : noonbellref01_Of.l2 n [] (m + 1) [.list 1 l0, .int .u64 x1, .list 1 l2] = 
  (bif (decide (x1 > 0)) then 
    (bif (Nat.ble (l2.length + (elemsOf 1 (.int .i64 0) [(0, (.int .i64 (Go.IntKind.wrap .i64 (Int.tmod x1 1000000000))))]).length) 17592186044416) then noonbellref01_Of.l2 n [] m [.list 1 l0, .int .u64 (Go.IntKind.wrap .u64 (Int.tdiv x1 1000000000)), .list 1 (l2 ++ (elemsOf 1 (.int .i64 0) [(0, (.int .i64 (Go.IntKind.wrap .i64 (Int.tmod x1 1000000000))))]))]
     else none)
   else some [.list 1 l2]) := by kernel_rfl
theorem noonbellref01_Of_eq (n : Nat) (x0 : Int) : evF En (n + 1) 65 [.int .u64 x0] = noonbellref01_Of.l2 n [] n [.list 1 [], .int .u64 x0, .list 1 (elemsOf 0 (.int .i64 0) [])] := by kernel_rfl
noncomputable def noonbellref01_Nat_Text.l5 (n : Nat) (ms : List Nat) (m : Nat) (L : List FV) : Res := Lp En n 68 [1, 1, 1, 0, 1, 0] ms m L
noncomputable def noonbellref01_Nat_Text.l9 (n : Nat) (ms : List Nat) (m : Nat) (L : List FV) : Res := Lp En n 68 [1, 1, 1, 0, 1, 0, 0, 1, 0, 0, 1, 1, 0] ms m L
noncomputable def noonbellref01_Nat_Text.l15 (n : Nat) (ms : List Nat) (m : Nat) (L : List FV) : Res := Lp En n 68 [1, 1, 1, 1, 1, 0, 1, 0] ms m L
theorem noonbellref01_Nat_Text.l5_eq (n m : Nat) (l0 : List FV) (l1 : List FV) (x2 : Int) : noonbellref01_Nat_Text.l5 n [] (m + 1) [.list 1 l0, .list 1 l1, .int .i64 x2] = 
  (bif (decide (x2 < (l0.length : Int))) then (ix x2 l0.length).bind fun i0 => (asInt .i64 (at' l0 i0 0)).bind fun n1 => noonbellref01_Nat_Text.l9 n [m] n [.list 1 l0, .list 1 l1, .int .i64 x2, .int .i64 n1, .int .i64 0]
   else noonbellref01_Nat_Text.l15 n [] n [.list 1 l1, .list 1 (elemsOf 0 (.int .u8 0) []), .int .i64 (Go.IntKind.wrap .i64 ((l1.length : Int) - 1))]) := by kernel_rfl
theorem noonbellref01_Nat_Text.l9_eq (n m m0 : Nat) (l0 : List FV) (l1 : List FV) (x2 : Int) (x3 : Int) (x4 : Int) : noonbellref01_Nat_Text.l9 n [m0] (m + 1) [.list 1 l0, .list 1 l1, .int .i64 x2, .int .i64 x3, .int .i64 x4] = 
  (bif (decide (x4 < 9)) then 
    (bif (decide (x3 > 0)) then 
      (bif (Nat.ble (l1.length + (elemsOf 1 (.int .u8 0) [(0, (.int .u8 (Go.IntKind.wrap .u8 (Go.IntKind.wrap .i64 (48 + (Int.tmod x3 10))))))]).length) 140737488355328) then noonbellref01_Nat_Text.l9 n [m0] m [.list 1 l0, .list 1 (l1 ++ (elemsOf 1 (.int .u8 0) [(0, (.int .u8 (Go.IntKind.wrap .u8 (Go.IntKind.wrap .i64 (48 + (Int.tmod x3 10))))))])), .int .i64 x2, .int .i64 (Go.IntKind.wrap .i64 (Int.tdiv x3 10)), .int .i64 (Go.IntKind.wrap .i64 (x4 + 1))]
       else none)
     else 
      (bif (decide ((Go.IntKind.wrap .i64 (x2 + 1)) < (l0.length : Int))) then 
        (bif (Nat.ble (l1.length + (elemsOf 1 (.int .u8 0) [(0, (.int .u8 (Go.IntKind.wrap .u8 (Go.IntKind.wrap .i64 (48 + (Int.tmod x3 10))))))]).length) 140737488355328) then noonbellref01_Nat_Text.l9 n [m0] m [.list 1 l0, .list 1 (l1 ++ (elemsOf 1 (.int .u8 0) [(0, (.int .u8 (Go.IntKind.wrap .u8 (Go.IntKind.wrap .i64 (48 + (Int.tmod x3 10))))))])), .int .i64 x2, .int .i64 (Go.IntKind.wrap .i64 (Int.tdiv x3 10)), .int .i64 (Go.IntKind.wrap .i64 (x4 + 1))]
         else none)
       else noonbellref01_Nat_Text.l5 n [] m0 [.list 1 l0, .list 1 l1, .int .i64 (Go.IntKind.wrap .i64 (x2 + 1))]))
   else noonbellref01_Nat_Text.l5 n [] m0 [.list 1 l0, .list 1 l1, .int .i64 (Go.IntKind.wrap .i64 (x2 + 1))]) := by kernel_rfl
theorem noonbellref01_Nat_Text.l15_eq (n m : Nat) (l0 : List FV) (l1 : List FV) (x2 : Int) : noonbellref01_Nat_Text.l15 n [] (m + 1) [.list 1 l0, .list 1 l1, .int .i64 x2] = 
  (bif (decide (x2 ≥ 0)) then (ix x2 l0.length).bind fun i0 => (asInt .u8 (at' l0 i0 0)).bind fun n1 => 
    (bif (Nat.ble (l1.length + (elemsOf 1 (.int .u8 0) [(0, (.int .u8 n1))]).length) 140737488355328) then noonbellref01_Nat_Text.l15 n [] m [.list 1 l0, .list 1 (l1 ++ (elemsOf 1 (.int .u8 0) [(0, (.int .u8 n1))])), .int .i64 (Go.IntKind.wrap .i64 (x2 - 1))]
     else none)
   else (bytesO l1).bind fun u2 => some [.str u2]) := by kernel_rfl
theorem noonbellref01_Nat_Text_eq (n : Nat) (l0 : List FV) : evF En (n + 1) 68 [.list 1 l0] = 
  (bif ((l0.length : Int) == 0) then some [.str { data := #[48] }]
   else noonbellref01_Nat_Text.l5 n [] n [.list 1 l0, .list 1 (elemsOf 0 (.int .u8 0) []), .int .i64 0]) := by kernel_rfl
noncomputable def noonbellref01_Parse.l4 (n : Nat) (ms : List Nat) (m : Nat) (L : List FV) : Res := Lp En n 72 [1, 1, 0, 1, 0] ms m L
noncomputable def noonbellref01_Parse.l10 (n : Nat) (ms : List Nat) (m : Nat) (L : List FV) : Res := Lp En n 72 [1, 1, 1, 1, 0, 1, 0] ms m L
noncomputable def noonbellref01_Parse.l14 (n : Nat) (ms : List Nat) (m : Nat) (L : List FV) : Res := Lp En n 72 [1, 1, 1, 1, 0, 1, 0, 0, 1, 0, 0, 1, 0, 1, 0] ms m L
theorem noonbellref01_Parse.l4_eq (n m : Nat) (l0 : List FV) (s1 : ByteArray) (x2 : Int) : noonbellref01_Parse.l4 n [] (m + 1) [.list 1 l0, .str s1, .int .i64 x2] = 
  (bif (decide (x2 < (s1.size : Int))) then (strAt s1 x2).bind fun n0 => 
    (bif (decide (n0 < 48)) then some [.list 1 [], .int .i64 10]
     else (strAt s1 x2).bind fun n1 => 
      (bif (decide (n1 > 57)) then some [.list 1 [], .int .i64 10]
       else noonbellref01_Parse.l4 n [] m [.list 1 l0, .str s1, .int .i64 (Go.IntKind.wrap .i64 (x2 + 1))]))
   else noonbellref01_Parse.l10 n [] n [.list 1 l0, .str s1, .list 1 (elemsOf 0 (.int .i64 0) []), .int .i64 (s1.size : Int)]) := by kernel_rfl
theorem noonbellref01_Parse.l10_eq (n m : Nat) (l0 : List FV) (s1 : ByteArray) (l2 : List FV) (x3 : Int) : noonbellref01_Parse.l10 n [] (m + 1) [.list 1 l0, .str s1, .list 1 l2, .int .i64 x3] = 
  (bif (decide (x3 > 0)) then noonbellref01_Parse.l14 n [m] n [.list 1 l0, .str s1, .list 1 l2, .int .i64 x3, .int .i64 0, .int .i64 (if 0 < (Go.IntKind.wrap .i64 (x3 - 9)) then (Go.IntKind.wrap .i64 (x3 - 9)) else 0)]
   else (evF En n 118 [.list 1 l2]).bind fun r0 => (asLst 1 (r0[0]?)).bind fun v1 => some [.list 1 v1, .int .i64 0]) := by kernel_rfl
theorem noonbellref01_Parse.l14_eq (n m m0 : Nat) (l0 : List FV) (s1 : ByteArray) (l2 : List FV) (x3 : Int) (x4 : Int) (x5 : Int) : noonbellref01_Parse.l14 n [m0] (m + 1) [.list 1 l0, .str s1, .list 1 l2, .int .i64 x3, .int .i64 x4, .int .i64 x5] = 
  (bif (decide (x5 < x3)) then (strAt s1 x5).bind fun n0 => noonbellref01_Parse.l14 n [m0] m [.list 1 l0, .str s1, .list 1 l2, .int .i64 x3, .int .i64 (Go.IntKind.wrap .i64 ((Go.IntKind.wrap .i64 (x4 * 10)) + (Go.IntKind.wrap .i64 (Go.IntKind.wrap .u8 (n0 - 48))))), .int .i64 (Go.IntKind.wrap .i64 (x5 + 1))]
   else 
    (bif (Nat.ble (l2.length + (elemsOf 1 (.int .i64 0) [(0, (.int .i64 x4))]).length) 17592186044416) then noonbellref01_Parse.l10 n [] m0 [.list 1 l0, .str s1, .list 1 (l2 ++ (elemsOf 1 (.int .i64 0) [(0, (.int .i64 x4))])), .int .i64 (Go.IntKind.wrap .i64 (x3 - 9))]
     else none)) := by kernel_rfl
theorem noonbellref01_Parse_eq (n : Nat) (s0 : ByteArray) : evF En (n + 1) 72 [.str s0] = 
  (bif ((s0.size : Int) == 0) then some [.list 1 [], .int .i64 10]
   else 
    (bif (decide ((s0.size : Int) > 1)) then (strAt s0 0).bind fun n0 => 
      (bif (n0 == 48) then some [.list 1 [], .int .i64 10]
       else noonbellref01_Parse.l4 n [] n [.list 1 [], .str s0, .int .i64 0])
     else noonbellref01_Parse.l4 n [] n [.list 1 [], .str s0, .int .i64 0])) := by kernel_rfl
noncomputable def noonbellref01_Nat_Add.l4 (n : Nat) (ms : List Nat) (m : Nat) (L : List FV) : Res := Lp En n 73 [1, 1, 1, 0, 1, 0] ms m L
theorem noonbellref01_Nat_Add.l4_eq (n m : Nat) (l0 : List FV) (l1 : List FV) (l2 : List FV) (l3 : List FV) (x4 : Int) (x5 : Int) : noonbellref01_Nat_Add.l4 n [] (m + 1) [.list 1 l0, .list 1 l1, .list 1 l2, .list 1 l3, .int .i64 x4, .int .i64 x5] = 
  (bif (decide (x5 < (l0.length : Int))) then (evF En n 119 [.list 1 l0, .int .i64 x5]).bind fun r0 => (asInt .i64 (r0[0]?)).bind fun n1 => (evF En n 119 [.list 1 l1, .int .i64 x5]).bind fun r2 => (asInt .i64 (r2[0]?)).bind fun n3 => 
    (bif (Nat.ble (l3.length + (elemsOf 1 (.int .i64 0) [(0, (.int .i64 (Int.tmod (Go.IntKind.wrap .i64 ((Go.IntKind.wrap .i64 (x4 + n1)) + n3)) 1000000000)))]).length) 17592186044416) then noonbellref01_Nat_Add.l4 n [] m [.list 1 l0, .list 1 l1, .list 1 l2, .list 1 (l3 ++ (elemsOf 1 (.int .i64 0) [(0, (.int .i64 (Int.tmod (Go.IntKind.wrap .i64 ((Go.IntKind.wrap .i64 (x4 + n1)) + n3)) 1000000000)))])), .int .i64 (Go.IntKind.wrap .i64 (Int.tdiv (Go.IntKind.wrap .i64 ((Go.IntKind.wrap .i64 (x4 + n1)) + n3)) 1000000000)), .int .i64 (Go.IntKind.wrap .i64 (x5 + 1))]
     else none)
   else 
    (bif (decide (x5 < (l1.length : Int))) then (evF En n 119 [.list 1 l0, .int .i64 x5]).bind fun r4 => (asInt .i64 (r4[0]?)).bind fun n5 => (evF En n 119 [.list 1 l1, .int .i64 x5]).bind fun r6 => (asInt .i64 (r6[0]?)).bind fun n7 => 
      (bif (Nat.ble (l3.length + (elemsOf 1 (.int .i64 0) [(0, (.int .i64 (Int.tmod (Go.IntKind.wrap .i64 ((Go.IntKind.wrap .i64 (x4 + n5)) + n7)) 1000000000)))]).length) 17592186044416) then noonbellref01_Nat_Add.l4 n [] m [.list 1 l0, .list 1 l1, .list 1 l2, .list 1 (l3 ++ (elemsOf 1 (.int .i64 0) [(0, (.int .i64 (Int.tmod (Go.IntKind.wrap .i64 ((Go.IntKind.wrap .i64 (x4 + n5)) + n7)) 1000000000)))])), .int .i64 (Go.IntKind.wrap .i64 (Int.tdiv (Go.IntKind.wrap .i64 ((Go.IntKind.wrap .i64 (x4 + n5)) + n7)) 1000000000)), .int .i64 (Go.IntKind.wrap .i64 (x5 + 1))]
       else none)
     else 
      (bif (Nat.ble (l3.length + (elemsOf 1 (.int .i64 0) [(0, (.int .i64 x4))]).length) 17592186044416) then (evF En n 118 [.list 1 (l3 ++ (elemsOf 1 (.int .i64 0) [(0, (.int .i64 x4))]))]).bind fun r8 => (asLst 1 (r8[0]?)).bind fun v9 => some [.list 1 v9]
       else none))) := by kernel_rfl
theorem noonbellref01_Nat_Add_eq (n : Nat) (l0 : List FV) (l1 : List FV) : evF En (n + 1) 73 [.list 1 l0, .list 1 l1] = noonbellref01_Nat_Add.l4 n [] n [.list 1 l0, .list 1 l1, .list 1 [], .list 1 (elemsOf 0 (.int .i64 0) []), .int .i64 0, .int .i64 0] := by kernel_rfl
noncomputable def noonbellref01_Nat_Cmp.l2 (n : Nat) (ms : List Nat) (m : Nat) (L : List FV) : Res := Lp En n 74 [1, 0, 1, 0] ms m L
theorem noonbellref01_Nat_Cmp.l2_eq (n m : Nat) (l0 : List FV) (l1 : List FV) (x2 : Int) : noonbellref01_Nat_Cmp.l2 n [] (m + 1) [.list 1 l0, .list 1 l1, .int .i64 x2] = 
  (bif (decide (x2 ≥ 0)) then (evF En n 119 [.list 1 l0, .int .i64 x2]).bind fun r0 => (asInt .i64 (r0[0]?)).bind fun n1 => (evF En n 119 [.list 1 l1, .int .i64 x2]).bind fun r2 => (asInt .i64 (r2[0]?)).bind fun n3 => 
    (bif (decide (n1 < n3)) then some [.int .i64 (-1)]
     else (evF En n 119 [.list 1 l0, .int .i64 x2]).bind fun r4 => (asInt .i64 (r4[0]?)).bind fun n5 => (evF En n 119 [.list 1 l1, .int .i64 x2]).bind fun r6 => (asInt .i64 (r6[0]?)).bind fun n7 => 
      (bif (decide (n5 > n7)) then some [.int .i64 1]
       else noonbellref01_Nat_Cmp.l2 n [] m [.list 1 l0, .list 1 l1, .int .i64 (Go.IntKind.wrap .i64 (x2 - 1))]))
   else some [.int .i64 0]) := by kernel_rfl
theorem noonbellref01_Nat_Cmp_eq (n : Nat) (l0 : List FV) (l1 : List FV) : evF En (n + 1) 74 [.list 1 l0, .list 1 l1] = noonbellref01_Nat_Cmp.l2 n [] n [.list 1 l0, .list 1 l1, .int .i64 (Go.IntKind.wrap .i64 ((if (l0.length : Int) < (l1.length : Int) then (l1.length : Int) else (l0.length : Int)) - 1))] := by kernel_rfl
noncomputable def noonbellref01_Nat_Sub.l6 (n : Nat) (ms : List Nat) (m : Nat) (L : List FV) : Res := Lp En n 75 [1, 1, 1, 1, 0, 1, 0] ms m L
theorem noonbellref01_Nat_Sub.l6_eq (n m : Nat) (l0 : List FV) (l1 : List FV) (l2 : List FV) (l3 : List FV) (x4 : Int) (x5 : Int) : noonbellref01_Nat_Sub.l6 n [] (m + 1) [.list 1 l0, .list 1 l1, .list 1 l2, .list 1 l3, .int .i64 x4, .int .i64 x5] = 
  (bif (decide (x5 < (l0.length : Int))) then (ix x5 l0.length).bind fun i0 => (asInt .i64 (at' l0 i0 0)).bind fun n1 => (evF En n 119 [.list 1 l1, .int .i64 x5]).bind fun r2 => (asInt .i64 (r2[0]?)).bind fun n3 => 
    (bif (decide ((Go.IntKind.wrap .i64 ((Go.IntKind.wrap .i64 (n1 - n3)) - x4)) < 0)) then 
      (bif (Nat.ble (l3.length + (elemsOf 1 (.int .i64 0) [(0, (.int .i64 (Go.IntKind.wrap .i64 ((Go.IntKind.wrap .i64 ((Go.IntKind.wrap .i64 (n1 - n3)) - x4)) + 1000000000))))]).length) 17592186044416) then noonbellref01_Nat_Sub.l6 n [] m [.list 1 l0, .list 1 l1, .list 1 l2, .list 1 (l3 ++ (elemsOf 1 (.int .i64 0) [(0, (.int .i64 (Go.IntKind.wrap .i64 ((Go.IntKind.wrap .i64 ((Go.IntKind.wrap .i64 (n1 - n3)) - x4)) + 1000000000))))])), .int .i64 1, .int .i64 (Go.IntKind.wrap .i64 (x5 + 1))]
       else none)
     else 
      (bif (Nat.ble (l3.length + (elemsOf 1 (.int .i64 0) [(0, (.int .i64 (Go.IntKind.wrap .i64 ((Go.IntKind.wrap .i64 (n1 - n3)) - x4))))]).length) 17592186044416) then noonbellref01_Nat_Sub.l6 n [] m [.list 1 l0, .list 1 l1, .list 1 l2, .list 1 (l3 ++ (elemsOf 1 (.int .i64 0) [(0, (.int .i64 (Go.IntKind.wrap .i64 ((Go.IntKind.wrap .i64 (n1 - n3)) - x4))))])), .int .i64 0, .int .i64 (Go.IntKind.wrap .i64 (x5 + 1))]
       else none))
   else (evF En n 118 [.list 1 l3]).bind fun r4 => (asLst 1 (r4[0]?)).bind fun v5 => some [.list 1 v5, .int .i64 0]) := by kernel_rfl
theorem noonbellref01_Nat_Sub_eq (n : Nat) (l0 : List FV) (l1 : List FV) : evF En (n + 1) 75 [.list 1 l0, .list 1 l1] = (evF En n 74 [.list 1 l0, .list 1 l1]).bind fun r0 => (asInt .i64 (r0[0]?)).bind fun n1 => 
  (bif (decide (n1 < 0)) then some [.list 1 [], .int .i64 11]
   else noonbellref01_Nat_Sub.l6 n [] n [.list 1 l0, .list 1 l1, .list 1 [], .list 1 (elemsOf 0 (.int .i64 0) []), .int .i64 0, .int .i64 0]) := by kernel_rfl
noncomputable def noonbellref01_trim.l1 (n : Nat) (ms : List Nat) (m : Nat) (L : List FV) : Res := Lp En n 118 [1, 0, 0] ms m L
theorem noonbellref01_trim.l1_eq (n m : Nat) (l0 : List FV) (l1 : List FV) : noonbellref01_trim.l1 n [] (m + 1) [.list 1 l0, .list 1 l1] = 
  (bif (decide ((l1.length : Int) > 0)) then (ix (Go.IntKind.wrap .i64 ((l1.length : Int) - 1)) l1.length).bind fun i0 => (asInt .i64 (at' l1 i0 0)).bind fun n1 => 
    (bif (n1 == 0) then (bd (Go.IntKind.wrap .i64 ((l1.length : Int) - 1)) l1.length).bind fun i2 => noonbellref01_trim.l1 n [] m [.list 1 l0, .list 1 (List.drop 0 (List.take i2 l1))]
     else some [.list 1 l1])
   else some [.list 1 l1]) := by kernel_rfl
theorem noonbellref01_trim_eq (n : Nat) (l0 : List FV) : evF En (n + 1) 118 [.list 1 l0] = noonbellref01_trim.l1 n [] n [.list 1 [], .list 1 l0] := by kernel_rfl
theorem noonbellref01_digit_eq (n : Nat) (l0 : List FV) (x1 : Int) : evF En (n + 1) 119 [.list 1 l0, .int .i64 x1] = 
  (bif (decide (x1 < (l0.length : Int))) then (ix x1 l0.length).bind fun i0 => (asInt .i64 (at' l0 i0 0)).bind fun n1 => some [.int .i64 n1]
   else some [.int .i64 0]) := by kernel_rfl
noncomputable def noonbellref01_Nat_Gcd.l1 (n : Nat) (ms : List Nat) (m : Nat) (L : List FV) : Res := Lp En n 130 [1, 0, 0] ms m L
theorem noonbellref01_Nat_Gcd.l1_eq (n m : Nat) (l0 : List FV) (l1 : List FV) (l2 : List FV) : noonbellref01_Nat_Gcd.l1 n [] (m + 1) [.list 1 l0, .list 1 l1, .list 1 l2] = 
  (bif (decide ((l1.length : Int) > 0)) then 
    (bif (decide ((l0.length : Int) ≤ 2)) then 
      (bif (decide ((l1.length : Int) ≤ 2)) then (evF En n 167 [.list 1 l0]).bind fun r0 => (asInt .u64 (r0[0]?)).bind fun n1 => (evF En n 167 [.list 1 l1]).bind fun r2 => (asInt .u64 (r2[0]?)).bind fun n3 => (evF En n 166 [.int .u64 n1, .int .u64 n3]).bind fun r4 => (asInt .u64 (r4[0]?)).bind fun n5 => (evF En n 65 [.int .u64 n5]).bind fun r6 => (asLst 1 (r6[0]?)).bind fun v7 => some [.list 1 v7]
       else (evF En n 168 [.list 1 l0, .list 1 l1]).bind fun r8 => (asLst 1 (r8[0]?)).bind fun v9 => (asLst 1 (r8[1]?)).bind fun v10 => (asInt .i64 (r8[2]?)).bind fun n11 => noonbellref01_Nat_Gcd.l1 n [] m [.list 1 l1, .list 1 v10, .list 1 l2])
     else (evF En n 168 [.list 1 l0, .list 1 l1]).bind fun r12 => (asLst 1 (r12[0]?)).bind fun v13 => (asLst 1 (r12[1]?)).bind fun v14 => (asInt .i64 (r12[2]?)).bind fun n15 => noonbellref01_Nat_Gcd.l1 n [] m [.list 1 l1, .list 1 v14, .list 1 l2])
   else some [.list 1 l0]) := by kernel_rfl
theorem noonbellref01_Nat_Gcd_eq (n : Nat) (l0 : List FV) (l1 : List FV) : evF En (n + 1) 130 [.list 1 l0, .list 1 l1] = noonbellref01_Nat_Gcd.l1 n [] n [.list 1 l0, .list 1 l1, .list 1 []] := by kernel_rfl
noncomputable def noonbellref01_Nat_Mul.l5 (n : Nat) (ms : List Nat) (m : Nat) (L : List FV) : Res := Lp En n 132 [1, 1, 1, 0, 1, 0] ms m L
noncomputable def noonbellref01_Nat_Mul.l9 (n : Nat) (ms : List Nat) (m : Nat) (L : List FV) : Res := Lp En n 132 [1, 1, 1, 0, 1, 0, 0, 1, 0, 0, 1, 0, 1, 0] ms m L
theorem noonbellref01_Nat_Mul.l5_eq (n m : Nat) (l0 : List FV) (l1 : List FV) (l2 : List FV) (l3 : List FV) (x4 : Int) : noonbellref01_Nat_Mul.l5 n [] (m + 1) [.list 1 l0, .list 1 l1, .list 1 l2, .list 1 l3, .int .i64 x4] = 
  (bif (decide (x4 < (l0.length : Int))) then noonbellref01_Nat_Mul.l9 n [m] n [.list 1 l0, .list 1 l1, .list 1 l2, .list 1 l3, .int .i64 x4, .int .i64 0, .int .i64 0]
   else (evF En n 118 [.list 1 l3]).bind fun r0 => (asLst 1 (r0[0]?)).bind fun v1 => some [.list 1 v1]) := by kernel_rfl
theorem noonbellref01_Nat_Mul.l9_eq (n m m0 : Nat) (l0 : List FV) (l1 : List FV) (l2 : List FV) (l3 : List FV) (x4 : Int) (x5 : Int) (x6 : Int) : noonbellref01_Nat_Mul.l9 n [m0] (m + 1) [.list 1 l0, .list 1 l1, .list 1 l2, .list 1 l3, .int .i64 x4, .int .i64 x5, .int .i64 x6] = 
  (bif (decide (x6 < (l1.length : Int))) then (ix (Go.IntKind.wrap .i64 (x4 + x6)) l3.length).bind fun i0 => (asInt .i64 (at' l3 i0 0)).bind fun n1 => (ix x4 l0.length).bind fun i2 => (asInt .i64 (at' l0 i2 0)).bind fun n3 => (ix x6 l1.length).bind fun i4 => (asInt .i64 (at' l1 i4 0)).bind fun n5 => (ix (Go.IntKind.wrap .i64 (x4 + x6)) l3.length).bind fun i6 => noonbellref01_Nat_Mul.l9 n [m0] m [.list 1 l0, .list 1 l1, .list 1 l2, .list 1 (List.set l3 i6 (.int .i64 (Int.tmod (Go.IntKind.wrap .i64 ((Go.IntKind.wrap .i64 (x5 + n1)) + (Go.IntKind.wrap .i64 (n3 * n5)))) 1000000000))), .int .i64 x4, .int .i64 (Go.IntKind.wrap .i64 (Int.tdiv (Go.IntKind.wrap .i64 ((Go.IntKind.wrap .i64 (x5 + n1)) + (Go.IntKind.wrap .i64 (n3 * n5)))) 1000000000)), .int .i64 (Go.IntKind.wrap .i64 (x6 + 1))]
   else (ix (Go.IntKind.wrap .i64 (x4 + (l1.length : Int))) l3.length).bind fun i7 => noonbellref01_Nat_Mul.l5 n [] m0 [.list 1 l0, .list 1 l1, .list 1 l2, .list 1 (List.set l3 i7 (.int .i64 x5)), .int .i64 (Go.IntKind.wrap .i64 (x4 + 1))]) := by kernel_rfl
theorem noonbellref01_Nat_Mul_eq (n : Nat) (l0 : List FV) (l1 : List FV) : evF En (n + 1) 132 [.list 1 l0, .list 1 l1] = 
  (bif ((l0.length : Int) == 0) then some [.list 1 []]
   else 
    (bif ((l1.length : Int) == 0) then some [.list 1 []]
     else (mkLen 8 (Go.IntKind.wrap .i64 ((l0.length : Int) + (l1.length : Int)))).bind fun i0 => (bd (Go.IntKind.wrap .i64 ((l0.length : Int) + (l1.length : Int))) i0).bind fun i1 => noonbellref01_Nat_Mul.l5 n [] n [.list 1 l0, .list 1 l1, .list 1 [], .list 1 (List.replicate i1 (.int .i64 0 : FV)), .int .i64 0])) := by kernel_rfl
noncomputable def noonbellref01_gcd.l1 (n : Nat) (ms : List Nat) (m : Nat) (L : List FV) : Res := Lp En n 166 [1, 0, 0] ms m L
theorem noonbellref01_gcd.l1_eq (n m : Nat) (x0 : Int) (x1 : Int) : noonbellref01_gcd.l1 n [] (m + 1) [.int .u64 x0, .int .u64 x1] = 
  (bif (decide (x1 > 0)) then 
    (bif (decide (x1 = 0)) then none
     else noonbellref01_gcd.l1 n [] m [.int .u64 x1, .int .u64 (Int.tmod x0 x1)])
   else some [.int .u64 x0]) := by kernel_rfl
theorem noonbellref01_gcd_eq (n : Nat) (x0 : Int) (x1 : Int) : evF En (n + 1) 166 [.int .u64 x0, .int .u64 x1] = noonbellref01_gcd.l1 n [] n [.int .u64 x0, .int .u64 x1] := by kernel_rfl
noncomputable def noonbellref01_word.l3 (n : Nat) (ms : List Nat) (m : Nat) (L : List FV) : Res := Lp En n 167 [1, 1, 0, 1, 0] ms m L
theorem noonbellref01_word.l3_eq (n m : Nat) (l0 : List FV) (x1 : Int) (x2 : Int) : noonbellref01_word.l3 n [] (m + 1) [.list 1 l0, .int .u64 x1, .int .i64 x2] = 
  (bif (decide (x2 ≥ 0)) then (ix x2 l0.length).bind fun i0 => (asInt .i64 (at' l0 i0 0)).bind fun n1 => noonbellref01_word.l3 n [] m [.list 1 l0, .int .u64 (Go.IntKind.wrap .u64 ((Go.IntKind.wrap .u64 (x1 * 1000000000)) + (Go.IntKind.wrap .u64 n1))), .int .i64 (Go.IntKind.wrap .i64 (x2 - 1))]
   else some [.int .u64 x1]) := by kernel_rfl
theorem noonbellref01_word_eq (n : Nat) (l0 : List FV) : evF En (n + 1) 167 [.list 1 l0] = noonbellref01_word.l3 n [] n [.list 1 l0, .int .u64 0, .int .i64 (Go.IntKind.wrap .i64 ((l0.length : Int) - 1))] := by kernel_rfl
noncomputable def noonbellref01_Nat_DivMod.l9 (n : Nat) (ms : List Nat) (m : Nat) (L : List FV) : Res := Lp En n 168 [1, 1, 1, 1, 1, 0, 1, 0] ms m L
theorem noonbellref01_Nat_DivMod.l9_eq (n m : Nat) (l0 : List FV) (l1 : List FV) (l2 : List FV) (l3 : List FV) (l4 : List FV) (l5 : List FV) (x6 : Int) : noonbellref01_Nat_DivMod.l9 n [] (m + 1) [.list 1 l0, .list 1 l1, .list 1 l2, .list 1 l3, .list 1 l4, .list 1 l5, .int .i64 x6] = 
  (bif (decide (x6 ≥ 0)) then (ix x6 l0.length).bind fun i0 => (asInt .i64 (at' l0 i0 0)).bind fun n1 => (evF En n 210 [.list 1 l4, .int .i64 n1]).bind fun r2 => (asLst 1 (r2[0]?)).bind fun v3 => (evF En n 211 [.list 1 v3, .list 1 l1]).bind fun r4 => (asInt .i64 (r4[0]?)).bind fun n5 => (ix x6 l5.length).bind fun i6 => (ix x6 (List.set l5 i6 (.int .i64 n5)).length).bind fun i7 => (asInt .i64 (at' (List.set l5 i6 (.int .i64 n5)) i7 0)).bind fun n8 => (evF En n 212 [.list 1 l1, .int .i64 n8, .int .i64 0]).bind fun r9 => (asLst 1 (r9[0]?)).bind fun v10 => (evF En n 75 [.list 1 v3, .list 1 v10]).bind fun r11 => (asLst 1 (r11[0]?)).bind fun v12 => (asInt .i64 (r11[1]?)).bind fun n13 => noonbellref01_Nat_DivMod.l9 n [] m [.list 1 l0, .list 1 l1, .list 1 l2, .list 1 l3, .list 1 v12, .list 1 (List.set l5 i6 (.int .i64 n5)), .int .i64 (Go.IntKind.wrap .i64 (x6 - 1))]
   else (evF En n 118 [.list 1 l5]).bind fun r14 => (asLst 1 (r14[0]?)).bind fun v15 => some [.list 1 v15, .list 1 l4, .int .i64 0]) := by kernel_rfl
theorem noonbellref01_Nat_DivMod_eq (n : Nat) (l0 : List FV) (l1 : List FV) : evF En (n + 1) 168 [.list 1 l0, .list 1 l1] = 
  (bif ((l1.length : Int) == 0) then some [.list 1 [], .list 1 [], .int .i64 12]
   else 
    (bif ((l1.length : Int) == 1) then (ix 0 l1.length).bind fun i0 => (asInt .i64 (at' l1 i0 0)).bind fun n1 => (evF En n 209 [.list 1 l0, .int .i64 n1]).bind fun r2 => (asLst 1 (r2[0]?)).bind fun v3 => (asLst 1 (r2[1]?)).bind fun v4 => some [.list 1 v3, .list 1 v4, .int .i64 0]
     else (mkLen 8 (l0.length : Int)).bind fun i5 => (bd (l0.length : Int) i5).bind fun i6 => noonbellref01_Nat_DivMod.l9 n [] n [.list 1 l0, .list 1 l1, .list 1 [], .list 1 [], .list 1 [], .list 1 (List.replicate i6 (.int .i64 0 : FV)), .int .i64 (Go.IntKind.wrap .i64 ((l0.length : Int) - 1))])) := by kernel_rfl
noncomputable def noonbellref01_one.l4 (n : Nat) (ms : List Nat) (m : Nat) (L : List FV) : Res := Lp En n 209 [1, 1, 1, 0, 1, 0] ms m L
theorem noonbellref01_one.l4_eq (n m : Nat) (l0 : List FV) (l1 : List FV) (l2 : List FV) (x3 : Int) (l4 : List FV) (x5 : Int) (x6 : Int) : noonbellref01_one.l4 n [] (m + 1) [.list 1 l0, .list 1 l1, .list 1 l2, .int .i64 x3, .list 1 l4, .int .i64 x5, .int .i64 x6] = 
  (bif (decide (x6 ≥ 0)) then (ix x6 l0.length).bind fun i0 => (asInt .i64 (at' l0 i0 0)).bind fun n1 => 
    (bif (decide (x3 = 0)) then none
     else (ix x6 l4.length).bind fun i2 => 
      (bif (decide (x3 = 0)) then none
       else noonbellref01_one.l4 n [] m [.list 1 l0, .list 1 l1, .list 1 l2, .int .i64 x3, .list 1 (List.set l4 i2 (.int .i64 (Go.IntKind.wrap .i64 (Int.tdiv (Go.IntKind.wrap .i64 ((Go.IntKind.wrap .i64 (x5 * 1000000000)) + n1)) x3)))), .int .i64 (Int.tmod (Go.IntKind.wrap .i64 ((Go.IntKind.wrap .i64 (x5 * 1000000000)) + n1)) x3), .int .i64 (Go.IntKind.wrap .i64 (x6 - 1))]))
   else (evF En n 118 [.list 1 l4]).bind fun r3 => (asLst 1 (r3[0]?)).bind fun v4 => (evF En n 65 [.int .u64 (Go.IntKind.wrap .u64 x5)]).bind fun r5 => (asLst 1 (r5[0]?)).bind fun v6 => some [.list 1 v4, .list 1 v6]) := by kernel_rfl
theorem noonbellref01_one_eq (n : Nat) (l0 : List FV) (x1 : Int) : evF En (n + 1) 209 [.list 1 l0, .int .i64 x1] = (mkLen 8 (l0.length : Int)).bind fun i0 => (bd (l0.length : Int) i0).bind fun i1 => noonbellref01_one.l4 n [] n [.list 1 l0, .list 1 [], .list 1 [], .int .i64 x1, .list 1 (List.replicate i1 (.int .i64 0 : FV)), .int .i64 0, .int .i64 (Go.IntKind.wrap .i64 ((l0.length : Int) - 1))] := by kernel_rfl
theorem noonbellref01_small2_eq (n : Nat) (l0 : List FV) (x1 : Int) : evF En (n + 1) 210 [.list 1 l0, .int .i64 x1] = 
  (bif (Nat.ble ((elemsOf 1 (.int .i64 0) [(0, (.int .i64 x1))]).length + l0.length) 17592186044416) then (evF En n 118 [.list 1 ((elemsOf 1 (.int .i64 0) [(0, (.int .i64 x1))]) ++ l0)]).bind fun r0 => (asLst 1 (r0[0]?)).bind fun v1 => some [.list 1 v1]
   else none) := by kernel_rfl
noncomputable def noonbellref01_times.l3 (n : Nat) (ms : List Nat) (m : Nat) (L : List FV) : Res := Lp En n 211 [1, 1, 1, 0, 0] ms m L
theorem noonbellref01_times.l3_eq (n m : Nat) (l0 : List FV) (l1 : List FV) (x2 : Int) (x3 : Int) : noonbellref01_times.l3 n [] (m + 1) [.list 1 l0, .list 1 l1, .int .i64 x2, .int .i64 x3] = 
  (bif (decide (x2 < x3)) then (evF En n 212 [.list 1 l1, .int .i64 (Go.IntKind.wrap .i64 (Int.tdiv (Go.IntKind.wrap .i64 ((Go.IntKind.wrap .i64 (x2 + x3)) + 1)) 2)), .int .i64 0]).bind fun r0 => (asLst 1 (r0[0]?)).bind fun v1 => (evF En n 74 [.list 1 v1, .list 1 l0]).bind fun r2 => (asInt .i64 (r2[0]?)).bind fun n3 => 
    (bif (decide (n3 ≤ 0)) then noonbellref01_times.l3 n [] m [.list 1 l0, .list 1 l1, .int .i64 (Go.IntKind.wrap .i64 (Int.tdiv (Go.IntKind.wrap .i64 ((Go.IntKind.wrap .i64 (x2 + x3)) + 1)) 2)), .int .i64 x3]
     else noonbellref01_times.l3 n [] m [.list 1 l0, .list 1 l1, .int .i64 x2, .int .i64 (Go.IntKind.wrap .i64 ((Go.IntKind.wrap .i64 (Int.tdiv (Go.IntKind.wrap .i64 ((Go.IntKind.wrap .i64 (x2 + x3)) + 1)) 2)) - 1))])
   else some [.int .i64 x2]) := by kernel_rfl
theorem noonbellref01_times_eq (n : Nat) (l0 : List FV) (l1 : List FV) : evF En (n + 1) 211 [.list 1 l0, .list 1 l1] = noonbellref01_times.l3 n [] n [.list 1 l0, .list 1 l1, .int .i64 0, .int .i64 999999999] := by kernel_rfl
noncomputable def noonbellref01_small.l3 (n : Nat) (ms : List Nat) (m : Nat) (L : List FV) : Res := Lp En n 212 [1, 1, 0, 1, 0] ms m L
theorem noonbellref01_small.l3_eq (n m : Nat) (l0 : List FV) (l1 : List FV) (x2 : Int) (x3 : Int) (l4 : List FV) (x5 : Int) : noonbellref01_small.l3 n [] (m + 1) [.list 1 l0, .list 1 l1, .int .i64 x2, .int .i64 x3, .list 1 l4, .int .i64 x5] = 
  (bif (decide (x5 < (l0.length : Int))) then (ix x5 l0.length).bind fun i0 => (asInt .i64 (at' l0 i0 0)).bind fun n1 => 
    (bif (Nat.ble (l4.length + (elemsOf 1 (.int .i64 0) [(0, (.int .i64 (Int.tmod (Go.IntKind.wrap .i64 (x3 + (Go.IntKind.wrap .i64 (n1 * x2)))) 1000000000)))]).length) 17592186044416) then noonbellref01_small.l3 n [] m [.list 1 l0, .list 1 l1, .int .i64 x2, .int .i64 (Go.IntKind.wrap .i64 (Int.tdiv (Go.IntKind.wrap .i64 (x3 + (Go.IntKind.wrap .i64 (n1 * x2)))) 1000000000)), .list 1 (l4 ++ (elemsOf 1 (.int .i64 0) [(0, (.int .i64 (Int.tmod (Go.IntKind.wrap .i64 (x3 + (Go.IntKind.wrap .i64 (n1 * x2)))) 1000000000)))])), .int .i64 (Go.IntKind.wrap .i64 (x5 + 1))]
     else none)
   else 
    (bif (Nat.ble (l4.length + (elemsOf 1 (.int .i64 0) [(0, (.int .i64 x3))]).length) 17592186044416) then (evF En n 118 [.list 1 (l4 ++ (elemsOf 1 (.int .i64 0) [(0, (.int .i64 x3))]))]).bind fun r2 => (asLst 1 (r2[0]?)).bind fun v3 => some [.list 1 v3]
     else none)) := by kernel_rfl
theorem noonbellref01_small_eq (n : Nat) (l0 : List FV) (x1 : Int) (x2 : Int) : evF En (n + 1) 212 [.list 1 l0, .int .i64 x1, .int .i64 x2] = noonbellref01_small.l3 n [] n [.list 1 l0, .list 1 [], .int .i64 x1, .int .i64 x2, .list 1 (elemsOf 0 (.int .i64 0) []), .int .i64 0] := by kernel_rfl

end Rf
