/- Made by a program of this work: what each function comes to, one step of it; by the kernel. -/
import Derived.Test.YtecinekkgnhhoaaRfEnv
import Derived.KernelRfl
set_option linter.unusedVariables false
set_option maxRecDepth 100000
set_option maxHeartbeats 4000000
namespace Rf
open Go

noncomputable def noonbelllaw16_ResultLinks.l17 (n : Nat) (ms : List Nat) (m : Nat) (L : List FV) : Res := Lp En n 3 [1, 1, 1, 1, 1, 1, 1, 1, 1, 1, 1, 1, 1, 0, 1, 0] ms m L
theorem noonbelllaw16_ResultLinks.l17_eq (n m : Nat) (s0 : ByteArray) (x1 : Int) (x2 : Int) (b3 : Bool) (x4 : Int) (l5 : List FV) (x6 : Int) (x7 : Int) (l8 : List FV) (x9 : Int) (l10 : List FV) (b11 : Bool) (b12 : Bool) (x13 : Int) : noonbelllaw16_ResultLinks.l17 n [] (m + 1) [.str s0, .int .i64 x1, .int .i64 x2, .bool b3, .int .i64 x4, .list 1 l5, .int .i64 x6, .int .i64 x7, .list 8 l8, .int .i64 x9, .list 1 l10, .bool b11, .bool b12, .int .i64 x13] = 
  (bif (decide (x13 < (l8.length : Int))) then (ix x13 l10.length).bind fun i0 => (asBool (at' l10 i0 0)).bind fun c1 => 
    (bif c1 then (ix x13 l8.length).bind fun i2 => (asStr (at' l8 i2 0)).bind fun u3 => 
      (bif (u3.toList == s0.toList) then (ix x13 l8.length).bind fun i4 => (asInt .i64 (at' l8 i4 1)).bind fun n5 => 
        (bif (n5 == x6) then (ix x13 l10.length).bind fun i6 => (asBool (at' l10 i6 0)).bind fun c7 => 
          (bif c7 then 
            (bif (x13 != x9) then (ix x13 l8.length).bind fun i8 => (asStr (at' l8 i8 0)).bind fun u9 => 
              (bif (u9.toList == s0.toList) then 
                (bif (decide (x7 > 0)) then (ix x13 l8.length).bind fun i10 => (asInt .i64 (at' l8 i10 7)).bind fun n11 => 
                  (bif (n11 == x7) then noonbelllaw16_ResultLinks.l17 n [] m [.str s0, .int .i64 x1, .int .i64 x2, .bool b3, .int .i64 x4, .list 1 l5, .int .i64 x6, .int .i64 x7, .list 8 l8, .int .i64 x9, .list 1 l10, .bool true, .bool false, .int .i64 (Go.IntKind.wrap .i64 (x13 + 1))]
                   else noonbelllaw16_ResultLinks.l17 n [] m [.str s0, .int .i64 x1, .int .i64 x2, .bool b3, .int .i64 x4, .list 1 l5, .int .i64 x6, .int .i64 x7, .list 8 l8, .int .i64 x9, .list 1 l10, .bool true, .bool b12, .int .i64 (Go.IntKind.wrap .i64 (x13 + 1))])
                 else noonbelllaw16_ResultLinks.l17 n [] m [.str s0, .int .i64 x1, .int .i64 x2, .bool b3, .int .i64 x4, .list 1 l5, .int .i64 x6, .int .i64 x7, .list 8 l8, .int .i64 x9, .list 1 l10, .bool true, .bool b12, .int .i64 (Go.IntKind.wrap .i64 (x13 + 1))])
               else noonbelllaw16_ResultLinks.l17 n [] m [.str s0, .int .i64 x1, .int .i64 x2, .bool b3, .int .i64 x4, .list 1 l5, .int .i64 x6, .int .i64 x7, .list 8 l8, .int .i64 x9, .list 1 l10, .bool true, .bool b12, .int .i64 (Go.IntKind.wrap .i64 (x13 + 1))])
             else noonbelllaw16_ResultLinks.l17 n [] m [.str s0, .int .i64 x1, .int .i64 x2, .bool b3, .int .i64 x4, .list 1 l5, .int .i64 x6, .int .i64 x7, .list 8 l8, .int .i64 x9, .list 1 l10, .bool true, .bool b12, .int .i64 (Go.IntKind.wrap .i64 (x13 + 1))])
           else noonbelllaw16_ResultLinks.l17 n [] m [.str s0, .int .i64 x1, .int .i64 x2, .bool b3, .int .i64 x4, .list 1 l5, .int .i64 x6, .int .i64 x7, .list 8 l8, .int .i64 x9, .list 1 l10, .bool true, .bool b12, .int .i64 (Go.IntKind.wrap .i64 (x13 + 1))])
         else (ix x13 l10.length).bind fun i12 => (asBool (at' l10 i12 0)).bind fun c13 => 
          (bif c13 then 
            (bif (x13 != x9) then (ix x13 l8.length).bind fun i14 => (asStr (at' l8 i14 0)).bind fun u15 => 
              (bif (u15.toList == s0.toList) then 
                (bif (decide (x7 > 0)) then (ix x13 l8.length).bind fun i16 => (asInt .i64 (at' l8 i16 7)).bind fun n17 => 
                  (bif (n17 == x7) then noonbelllaw16_ResultLinks.l17 n [] m [.str s0, .int .i64 x1, .int .i64 x2, .bool b3, .int .i64 x4, .list 1 l5, .int .i64 x6, .int .i64 x7, .list 8 l8, .int .i64 x9, .list 1 l10, .bool b11, .bool false, .int .i64 (Go.IntKind.wrap .i64 (x13 + 1))]
                   else noonbelllaw16_ResultLinks.l17 n [] m [.str s0, .int .i64 x1, .int .i64 x2, .bool b3, .int .i64 x4, .list 1 l5, .int .i64 x6, .int .i64 x7, .list 8 l8, .int .i64 x9, .list 1 l10, .bool b11, .bool b12, .int .i64 (Go.IntKind.wrap .i64 (x13 + 1))])
                 else noonbelllaw16_ResultLinks.l17 n [] m [.str s0, .int .i64 x1, .int .i64 x2, .bool b3, .int .i64 x4, .list 1 l5, .int .i64 x6, .int .i64 x7, .list 8 l8, .int .i64 x9, .list 1 l10, .bool b11, .bool b12, .int .i64 (Go.IntKind.wrap .i64 (x13 + 1))])
               else noonbelllaw16_ResultLinks.l17 n [] m [.str s0, .int .i64 x1, .int .i64 x2, .bool b3, .int .i64 x4, .list 1 l5, .int .i64 x6, .int .i64 x7, .list 8 l8, .int .i64 x9, .list 1 l10, .bool b11, .bool b12, .int .i64 (Go.IntKind.wrap .i64 (x13 + 1))])
             else noonbelllaw16_ResultLinks.l17 n [] m [.str s0, .int .i64 x1, .int .i64 x2, .bool b3, .int .i64 x4, .list 1 l5, .int .i64 x6, .int .i64 x7, .list 8 l8, .int .i64 x9, .list 1 l10, .bool b11, .bool b12, .int .i64 (Go.IntKind.wrap .i64 (x13 + 1))])
           else noonbelllaw16_ResultLinks.l17 n [] m [.str s0, .int .i64 x1, .int .i64 x2, .bool b3, .int .i64 x4, .list 1 l5, .int .i64 x6, .int .i64 x7, .list 8 l8, .int .i64 x9, .list 1 l10, .bool b11, .bool b12, .int .i64 (Go.IntKind.wrap .i64 (x13 + 1))]))
       else (ix x13 l10.length).bind fun i18 => (asBool (at' l10 i18 0)).bind fun c19 => 
        (bif c19 then 
          (bif (x13 != x9) then (ix x13 l8.length).bind fun i20 => (asStr (at' l8 i20 0)).bind fun u21 => 
            (bif (u21.toList == s0.toList) then 
              (bif (decide (x7 > 0)) then (ix x13 l8.length).bind fun i22 => (asInt .i64 (at' l8 i22 7)).bind fun n23 => 
                (bif (n23 == x7) then noonbelllaw16_ResultLinks.l17 n [] m [.str s0, .int .i64 x1, .int .i64 x2, .bool b3, .int .i64 x4, .list 1 l5, .int .i64 x6, .int .i64 x7, .list 8 l8, .int .i64 x9, .list 1 l10, .bool b11, .bool false, .int .i64 (Go.IntKind.wrap .i64 (x13 + 1))]
                 else noonbelllaw16_ResultLinks.l17 n [] m [.str s0, .int .i64 x1, .int .i64 x2, .bool b3, .int .i64 x4, .list 1 l5, .int .i64 x6, .int .i64 x7, .list 8 l8, .int .i64 x9, .list 1 l10, .bool b11, .bool b12, .int .i64 (Go.IntKind.wrap .i64 (x13 + 1))])
               else noonbelllaw16_ResultLinks.l17 n [] m [.str s0, .int .i64 x1, .int .i64 x2, .bool b3, .int .i64 x4, .list 1 l5, .int .i64 x6, .int .i64 x7, .list 8 l8, .int .i64 x9, .list 1 l10, .bool b11, .bool b12, .int .i64 (Go.IntKind.wrap .i64 (x13 + 1))])
             else noonbelllaw16_ResultLinks.l17 n [] m [.str s0, .int .i64 x1, .int .i64 x2, .bool b3, .int .i64 x4, .list 1 l5, .int .i64 x6, .int .i64 x7, .list 8 l8, .int .i64 x9, .list 1 l10, .bool b11, .bool b12, .int .i64 (Go.IntKind.wrap .i64 (x13 + 1))])
           else noonbelllaw16_ResultLinks.l17 n [] m [.str s0, .int .i64 x1, .int .i64 x2, .bool b3, .int .i64 x4, .list 1 l5, .int .i64 x6, .int .i64 x7, .list 8 l8, .int .i64 x9, .list 1 l10, .bool b11, .bool b12, .int .i64 (Go.IntKind.wrap .i64 (x13 + 1))])
         else noonbelllaw16_ResultLinks.l17 n [] m [.str s0, .int .i64 x1, .int .i64 x2, .bool b3, .int .i64 x4, .list 1 l5, .int .i64 x6, .int .i64 x7, .list 8 l8, .int .i64 x9, .list 1 l10, .bool b11, .bool b12, .int .i64 (Go.IntKind.wrap .i64 (x13 + 1))]))
     else (ix x13 l10.length).bind fun i24 => (asBool (at' l10 i24 0)).bind fun c25 => 
      (bif c25 then 
        (bif (x13 != x9) then (ix x13 l8.length).bind fun i26 => (asStr (at' l8 i26 0)).bind fun u27 => 
          (bif (u27.toList == s0.toList) then 
            (bif (decide (x7 > 0)) then (ix x13 l8.length).bind fun i28 => (asInt .i64 (at' l8 i28 7)).bind fun n29 => 
              (bif (n29 == x7) then noonbelllaw16_ResultLinks.l17 n [] m [.str s0, .int .i64 x1, .int .i64 x2, .bool b3, .int .i64 x4, .list 1 l5, .int .i64 x6, .int .i64 x7, .list 8 l8, .int .i64 x9, .list 1 l10, .bool b11, .bool false, .int .i64 (Go.IntKind.wrap .i64 (x13 + 1))]
               else noonbelllaw16_ResultLinks.l17 n [] m [.str s0, .int .i64 x1, .int .i64 x2, .bool b3, .int .i64 x4, .list 1 l5, .int .i64 x6, .int .i64 x7, .list 8 l8, .int .i64 x9, .list 1 l10, .bool b11, .bool b12, .int .i64 (Go.IntKind.wrap .i64 (x13 + 1))])
             else noonbelllaw16_ResultLinks.l17 n [] m [.str s0, .int .i64 x1, .int .i64 x2, .bool b3, .int .i64 x4, .list 1 l5, .int .i64 x6, .int .i64 x7, .list 8 l8, .int .i64 x9, .list 1 l10, .bool b11, .bool b12, .int .i64 (Go.IntKind.wrap .i64 (x13 + 1))])
           else noonbelllaw16_ResultLinks.l17 n [] m [.str s0, .int .i64 x1, .int .i64 x2, .bool b3, .int .i64 x4, .list 1 l5, .int .i64 x6, .int .i64 x7, .list 8 l8, .int .i64 x9, .list 1 l10, .bool b11, .bool b12, .int .i64 (Go.IntKind.wrap .i64 (x13 + 1))])
         else noonbelllaw16_ResultLinks.l17 n [] m [.str s0, .int .i64 x1, .int .i64 x2, .bool b3, .int .i64 x4, .list 1 l5, .int .i64 x6, .int .i64 x7, .list 8 l8, .int .i64 x9, .list 1 l10, .bool b11, .bool b12, .int .i64 (Go.IntKind.wrap .i64 (x13 + 1))])
       else noonbelllaw16_ResultLinks.l17 n [] m [.str s0, .int .i64 x1, .int .i64 x2, .bool b3, .int .i64 x4, .list 1 l5, .int .i64 x6, .int .i64 x7, .list 8 l8, .int .i64 x9, .list 1 l10, .bool b11, .bool b12, .int .i64 (Go.IntKind.wrap .i64 (x13 + 1))]))
   else (evF En n 9 [.list 8 l8, .list 1 l10]).bind fun r30 => (asBool (r30[0]?)).bind fun c31 => 
    (bif b11 then some [.bool (c31 == b12)]
     else some [.bool (c31 == false)])) := by kernel_rfl
theorem noonbelllaw16_ResultLinks_eq (n : Nat) (l0 : List FV) (l1 : List FV) (x2 : Int) : evF En (n + 1) 3 [.list 8 l0, .list 1 l1, .int .i64 x2] = 
  (bif (decide ((l0.length : Int) > 12)) then some [.bool true]
   else 
    (bif ((l1.length : Int) != (l0.length : Int)) then some [.bool true]
     else 
      (bif ((l0.length : Int) == 0) then some [.bool true]
       else 
        (bif (decide ((l0.length : Int) = 0)) then none
         else 
          (bif (decide ((l0.length : Int) = 0)) then none
           else 
            (bif (Nat.ble ((elemsOf 0 (.bool false) []).length + l1.length) 140737488355328) then (ix (Int.tmod (Go.IntKind.wrap .i64 ((Int.tmod x2 (l0.length : Int)) + (l0.length : Int))) (l0.length : Int)) ((elemsOf 0 (.bool false) []) ++ l1).length).bind fun i0 => (mkLen 1 (l0.length : Int)).bind fun i1 => (bd (l0.length : Int) i1).bind fun i2 => (evF En n 9 [.list 8 l0, .list 1 (List.replicate i2 (.bool false : FV))]).bind fun r3 => (asBool (r3[0]?)).bind fun c4 => 
              (bif (!c4) then some [.bool false]
               else (evF En n 9 [.list 8 l0, .list 1 (List.set ((elemsOf 0 (.bool false) []) ++ l1) i0 (.bool false))]).bind fun r5 => (asBool (r5[0]?)).bind fun c6 => (evF En n 10 [.list 8 l0, .list 1 (List.set ((elemsOf 0 (.bool false) []) ++ l1) i0 (.bool false))]).bind fun r7 => (asBool (r7[0]?)).bind fun c8 => 
                (bif (!(c6 == c8)) then some [.bool false]
                 else (evF En n 9 [.list 8 l0, .list 1 (List.set ((elemsOf 0 (.bool false) []) ++ l1) i0 (.bool false))]).bind fun r9 => (asBool (r9[0]?)).bind fun c10 => 
                  (bif (!c10) then some [.bool true]
                   else (ix (Int.tmod (Go.IntKind.wrap .i64 ((Int.tmod x2 (l0.length : Int)) + (l0.length : Int))) (l0.length : Int)) (List.set ((elemsOf 0 (.bool false) []) ++ l1) i0 (.bool false)).length).bind fun i11 => (ix (Int.tmod (Go.IntKind.wrap .i64 ((Int.tmod x2 (l0.length : Int)) + (l0.length : Int))) (l0.length : Int)) l0.length).bind fun i12 => (asStr (at' l0 i12 0)).bind fun u13 => (asInt .i64 (at' l0 i12 1)).bind fun n14 => (asInt .i64 (at' l0 i12 2)).bind fun n15 => (asBool (at' l0 i12 3)).bind fun c16 => (asInt .i64 (at' l0 i12 4)).bind fun n17 => (asLst 1 (at' l0 i12 5)).bind fun v18 => (asInt .i64 (at' l0 i12 6)).bind fun n19 => (asInt .i64 (at' l0 i12 7)).bind fun n20 => noonbelllaw16_ResultLinks.l17 n [] n [.str u13, .int .i64 n14, .int .i64 n15, .bool c16, .int .i64 n17, .list 1 v18, .int .i64 n19, .int .i64 n20, .list 8 l0, .int .i64 (Int.tmod (Go.IntKind.wrap .i64 ((Int.tmod x2 (l0.length : Int)) + (l0.length : Int))) (l0.length : Int)), .list 1 (List.set (List.set ((elemsOf 0 (.bool false) []) ++ l1) i0 (.bool false)) i11 (.bool true)), .bool (decide (n19 ≤ 0)), .bool true, .int .i64 0])))
             else none)))))) := by kernel_rfl
noncomputable def result_Linked.l5 (n : Nat) (ms : List Nat) (m : Nat) (L : List FV) : Res := Lp En n 9 [1, 1, 1, 0, 1, 0] ms m L
noncomputable def result_Linked.l12 (n : Nat) (ms : List Nat) (m : Nat) (L : List FV) : Res := Lp En n 9 [1, 1, 1, 1, 0, 1, 0] ms m L
theorem result_Linked.l5_eq (n m : Nat) (l0 : List FV) (l1 : List FV) (e2 : List FV) (x2 : Int) (e3 : List FV) (x3 : Int) (l4 : List FV) (x5 : Int) (x6 : Int) : result_Linked.l5 n [] (m + 1) [.list 8 l0, .list 1 l1, .list 3 e2, .int .i64 x2, .list 3 e3, .int .i64 x3, .list 8 l4, .int .i64 x5, .int .i64 x6] = 
  (bif (decide (x6 < x5)) then (ix x6 l4.length).bind fun i0 => (asStr (at' l4 i0 0)).bind fun u1 => (asInt .i64 (at' l4 i0 1)).bind fun n2 => (asInt .i64 (at' l4 i0 2)).bind fun n3 => (asBool (at' l4 i0 3)).bind fun c4 => (asInt .i64 (at' l4 i0 4)).bind fun n5 => (asLst 1 (at' l4 i0 5)).bind fun v6 => (asInt .i64 (at' l4 i0 6)).bind fun n7 => (asInt .i64 (at' l4 i0 7)).bind fun n8 => (ix x6 l1.length).bind fun i9 => (asBool (at' l1 i9 0)).bind fun c10 => 
    (bif c10 then (asInt .i64 (at' [mgetD e2 (.agg [.str u1, .int .i64 n8]) (.int .i64 0)] 0 0)).bind fun n11 => 
      (bif (mhasB (ment e2 (.agg [.str u1, .int .i64 n8]) (.int .i64 0) x2) (mborn e2 (.agg [.str u1, .int .i64 n8]) x2)) then (asInt .i64 (at' [mgetD e3 (.agg [.str u1, .int .i64 n2]) (.int .i64 0)] 0 0)).bind fun n12 => 
        (bif (mhasB (ment e3 (.agg [.str u1, .int .i64 n2]) (.int .i64 0) x3) (mborn e3 (.agg [.str u1, .int .i64 n2]) x3)) then result_Linked.l5 n [] m [.list 8 l0, .list 1 l1, .list 3 (msetB (ment e2 (.agg [.str u1, .int .i64 n8]) (.int .i64 0) x2) (mborn e2 (.agg [.str u1, .int .i64 n8]) x2) (.int .i64 (Go.IntKind.wrap .i64 (n11 + 1)))), .int .i64 (mclk e2 (.agg [.str u1, .int .i64 n8]) x2), .list 3 (msetB (ment e3 (.agg [.str u1, .int .i64 n2]) (.int .i64 0) x3) (mborn e3 (.agg [.str u1, .int .i64 n2]) x3) (.int .i64 (Go.IntKind.wrap .i64 (n12 + 1)))), .int .i64 (mclk e3 (.agg [.str u1, .int .i64 n2]) x3), .list 8 l4, .int .i64 x5, .int .i64 (Go.IntKind.wrap .i64 (x6 + 1))]
         else none)
       else none)
     else result_Linked.l5 n [] m [.list 8 l0, .list 1 l1, .list 3 e2, .int .i64 x2, .list 3 e3, .int .i64 x3, .list 8 l4, .int .i64 x5, .int .i64 (Go.IntKind.wrap .i64 (x6 + 1))])
   else result_Linked.l12 n [] n [.list 1 l1, .list 3 e2, .int .i64 x2, .list 3 e3, .int .i64 x3, .list 8 l0, .int .i64 (l0.length : Int), .int .i64 0]) := by kernel_rfl
theorem result_Linked.l12_eq (n m : Nat) (l0 : List FV) (e1 : List FV) (x1 : Int) (e2 : List FV) (x2 : Int) (l3 : List FV) (x4 : Int) (x5 : Int) : result_Linked.l12 n [] (m + 1) [.list 1 l0, .list 3 e1, .int .i64 x1, .list 3 e2, .int .i64 x2, .list 8 l3, .int .i64 x4, .int .i64 x5] = 
  (bif (decide (x5 < x4)) then (ix x5 l3.length).bind fun i0 => (asStr (at' l3 i0 0)).bind fun u1 => (asInt .i64 (at' l3 i0 1)).bind fun n2 => (asInt .i64 (at' l3 i0 2)).bind fun n3 => (asBool (at' l3 i0 3)).bind fun c4 => (asInt .i64 (at' l3 i0 4)).bind fun n5 => (asLst 1 (at' l3 i0 5)).bind fun v6 => (asInt .i64 (at' l3 i0 6)).bind fun n7 => (asInt .i64 (at' l3 i0 7)).bind fun n8 => (ix x5 l0.length).bind fun i9 => (asBool (at' l0 i9 0)).bind fun c10 => 
    (bif c10 then 
      (bif (decide (n8 > 0)) then (asInt .i64 (at' [mgetD e1 (.agg [.str u1, .int .i64 n8]) (.int .i64 0)] 0 0)).bind fun n11 => 
        (bif (decide (n11 > 1)) then some [.bool false]
         else 
          (bif (decide (n7 > 0)) then (asInt .i64 (at' [mgetD e2 (.agg [.str u1, .int .i64 n7]) (.int .i64 0)] 0 0)).bind fun n12 => 
            (bif (n12 == 0) then some [.bool false]
             else result_Linked.l12 n [] m [.list 1 l0, .list 3 e1, .int .i64 x1, .list 3 e2, .int .i64 x2, .list 8 l3, .int .i64 x4, .int .i64 (Go.IntKind.wrap .i64 (x5 + 1))])
           else result_Linked.l12 n [] m [.list 1 l0, .list 3 e1, .int .i64 x1, .list 3 e2, .int .i64 x2, .list 8 l3, .int .i64 x4, .int .i64 (Go.IntKind.wrap .i64 (x5 + 1))]))
       else 
        (bif (decide (n7 > 0)) then (asInt .i64 (at' [mgetD e2 (.agg [.str u1, .int .i64 n7]) (.int .i64 0)] 0 0)).bind fun n13 => 
          (bif (n13 == 0) then some [.bool false]
           else result_Linked.l12 n [] m [.list 1 l0, .list 3 e1, .int .i64 x1, .list 3 e2, .int .i64 x2, .list 8 l3, .int .i64 x4, .int .i64 (Go.IntKind.wrap .i64 (x5 + 1))])
         else result_Linked.l12 n [] m [.list 1 l0, .list 3 e1, .int .i64 x1, .list 3 e2, .int .i64 x2, .list 8 l3, .int .i64 x4, .int .i64 (Go.IntKind.wrap .i64 (x5 + 1))]))
     else result_Linked.l12 n [] m [.list 1 l0, .list 3 e1, .int .i64 x1, .list 3 e2, .int .i64 x2, .list 8 l3, .int .i64 x4, .int .i64 (Go.IntKind.wrap .i64 (x5 + 1))])
   else some [.bool true]) := by kernel_rfl
theorem result_Linked_eq (n : Nat) (l0 : List FV) (l1 : List FV) : evF En (n + 1) 9 [.list 8 l0, .list 1 l1] = 
  (bif ((l0.length : Int) != (l1.length : Int)) then some [.bool false]
   else result_Linked.l5 n [] n [.list 8 l0, .list 1 l1, .list 3 [], .int .i64 0, .list 3 [], .int .i64 0, .list 8 l0, .int .i64 (l0.length : Int), .int .i64 0]) := by kernel_rfl
noncomputable def noonbellref16_Linked.l4 (n : Nat) (ms : List Nat) (m : Nat) (L : List FV) : Res := Lp En n 10 [1, 1, 0, 1, 0] ms m L
noncomputable def noonbellref16_Linked.l10 (n : Nat) (ms : List Nat) (m : Nat) (L : List FV) : Res := Lp En n 10 [1, 1, 0, 1, 0, 0, 1, 0, 0, 1, 1, 1, 0, 1, 0] ms m L
theorem noonbellref16_Linked.l4_eq (n m : Nat) (l0 : List FV) (l1 : List FV) (x2 : Int) : noonbellref16_Linked.l4 n [] (m + 1) [.list 8 l0, .list 1 l1, .int .i64 x2] = 
  (bif (decide (x2 < (l0.length : Int))) then (ix x2 l1.length).bind fun i0 => (asBool (at' l1 i0 0)).bind fun c1 => 
    (bif (!c1) then noonbellref16_Linked.l4 n [] m [.list 8 l0, .list 1 l1, .int .i64 (Go.IntKind.wrap .i64 (x2 + 1))]
     else (ix x2 l0.length).bind fun i2 => (asStr (at' l0 i2 0)).bind fun u3 => (asInt .i64 (at' l0 i2 1)).bind fun n4 => (asInt .i64 (at' l0 i2 2)).bind fun n5 => (asBool (at' l0 i2 3)).bind fun c6 => (asInt .i64 (at' l0 i2 4)).bind fun n7 => (asLst 1 (at' l0 i2 5)).bind fun v8 => (asInt .i64 (at' l0 i2 6)).bind fun n9 => (asInt .i64 (at' l0 i2 7)).bind fun n10 => noonbellref16_Linked.l10 n [m] n [.str u3, .int .i64 n4, .int .i64 n5, .bool c6, .int .i64 n7, .list 1 v8, .int .i64 n9, .int .i64 n10, .list 8 l0, .list 1 l1, .int .i64 x2, .bool (decide (n9 ≤ 0)), .int .i64 0])
   else some [.bool true]) := by kernel_rfl
theorem noonbellref16_Linked.l10_eq (n m m0 : Nat) (s0 : ByteArray) (x1 : Int) (x2 : Int) (b3 : Bool) (x4 : Int) (l5 : List FV) (x6 : Int) (x7 : Int) (l8 : List FV) (l9 : List FV) (x10 : Int) (b11 : Bool) (x12 : Int) : noonbellref16_Linked.l10 n [m0] (m + 1) [.str s0, .int .i64 x1, .int .i64 x2, .bool b3, .int .i64 x4, .list 1 l5, .int .i64 x6, .int .i64 x7, .list 8 l8, .list 1 l9, .int .i64 x10, .bool b11, .int .i64 x12] = 
  (bif (decide (x12 < (l8.length : Int))) then (ix x12 l9.length).bind fun i0 => (asBool (at' l9 i0 0)).bind fun c1 => 
    (bif (!c1) then noonbellref16_Linked.l10 n [m0] m [.str s0, .int .i64 x1, .int .i64 x2, .bool b3, .int .i64 x4, .list 1 l5, .int .i64 x6, .int .i64 x7, .list 8 l8, .list 1 l9, .int .i64 x10, .bool b11, .int .i64 (Go.IntKind.wrap .i64 (x12 + 1))]
     else (ix x12 l8.length).bind fun i2 => (asStr (at' l8 i2 0)).bind fun u3 => 
      (bif (!(u3.toList == s0.toList)) then noonbellref16_Linked.l10 n [m0] m [.str s0, .int .i64 x1, .int .i64 x2, .bool b3, .int .i64 x4, .list 1 l5, .int .i64 x6, .int .i64 x7, .list 8 l8, .list 1 l9, .int .i64 x10, .bool b11, .int .i64 (Go.IntKind.wrap .i64 (x12 + 1))]
       else 
        (bif b11 then 
          (bif (x12 != x10) then 
            (bif (decide (x7 > 0)) then (ix x12 l8.length).bind fun i4 => (asInt .i64 (at' l8 i4 7)).bind fun n5 => 
              (bif (n5 == x7) then some [.bool false]
               else noonbellref16_Linked.l10 n [m0] m [.str s0, .int .i64 x1, .int .i64 x2, .bool b3, .int .i64 x4, .list 1 l5, .int .i64 x6, .int .i64 x7, .list 8 l8, .list 1 l9, .int .i64 x10, .bool true, .int .i64 (Go.IntKind.wrap .i64 (x12 + 1))])
             else noonbellref16_Linked.l10 n [m0] m [.str s0, .int .i64 x1, .int .i64 x2, .bool b3, .int .i64 x4, .list 1 l5, .int .i64 x6, .int .i64 x7, .list 8 l8, .list 1 l9, .int .i64 x10, .bool true, .int .i64 (Go.IntKind.wrap .i64 (x12 + 1))])
           else noonbellref16_Linked.l10 n [m0] m [.str s0, .int .i64 x1, .int .i64 x2, .bool b3, .int .i64 x4, .list 1 l5, .int .i64 x6, .int .i64 x7, .list 8 l8, .list 1 l9, .int .i64 x10, .bool true, .int .i64 (Go.IntKind.wrap .i64 (x12 + 1))])
         else (ix x12 l8.length).bind fun i6 => (asInt .i64 (at' l8 i6 1)).bind fun n7 => 
          (bif (x12 != x10) then 
            (bif (decide (x7 > 0)) then (ix x12 l8.length).bind fun i8 => (asInt .i64 (at' l8 i8 7)).bind fun n9 => 
              (bif (n9 == x7) then some [.bool false]
               else noonbellref16_Linked.l10 n [m0] m [.str s0, .int .i64 x1, .int .i64 x2, .bool b3, .int .i64 x4, .list 1 l5, .int .i64 x6, .int .i64 x7, .list 8 l8, .list 1 l9, .int .i64 x10, .bool (n7 == x6), .int .i64 (Go.IntKind.wrap .i64 (x12 + 1))])
             else noonbellref16_Linked.l10 n [m0] m [.str s0, .int .i64 x1, .int .i64 x2, .bool b3, .int .i64 x4, .list 1 l5, .int .i64 x6, .int .i64 x7, .list 8 l8, .list 1 l9, .int .i64 x10, .bool (n7 == x6), .int .i64 (Go.IntKind.wrap .i64 (x12 + 1))])
           else noonbellref16_Linked.l10 n [m0] m [.str s0, .int .i64 x1, .int .i64 x2, .bool b3, .int .i64 x4, .list 1 l5, .int .i64 x6, .int .i64 x7, .list 8 l8, .list 1 l9, .int .i64 x10, .bool (n7 == x6), .int .i64 (Go.IntKind.wrap .i64 (x12 + 1))]))))
   else 
    (bif (!b11) then some [.bool false]
     else noonbellref16_Linked.l4 n [] m0 [.list 8 l8, .list 1 l9, .int .i64 (Go.IntKind.wrap .i64 (x10 + 1))])) := by kernel_rfl
theorem noonbellref16_Linked_eq (n : Nat) (l0 : List FV) (l1 : List FV) : evF En (n + 1) 10 [.list 8 l0, .list 1 l1] = 
  (bif ((l0.length : Int) != (l1.length : Int)) then some [.bool false]
   else noonbellref16_Linked.l4 n [] n [.list 8 l0, .list 1 l1, .int .i64 0]) := by kernel_rfl

end Rf
