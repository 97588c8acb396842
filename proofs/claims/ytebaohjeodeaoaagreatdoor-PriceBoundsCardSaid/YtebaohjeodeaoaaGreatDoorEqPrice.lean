/- Made by a program of this work: what each function comes to, one step of it; by the kernel. -/
import Derived.Test.YtebaohjeodeaoaaGreatDoorRfEnv
import Derived.KernelRfl
set_option linter.unusedVariables false
set_option maxRecDepth 100000
set_option maxHeartbeats 4000000
namespace Rf
open Go

theorem noonbelllaw17_PriceBounds_eq (n : Nat) (x0 : Int) (x1 : Int) (l2 : List FV) (x3 : Int) (x4 : Int) (l5 : List FV) (l6 : List FV) (l7 : List FV) (l8 : List FV) (l9 : List FV) (x10 : Int) (x11 : Int) : evF En (n + 1) 5 [.int .i64 x0, .int .i64 x1, .list 3 l2, .int .i64 x3, .int .i64 x4, .list 7 l5, .list 8 l6, .list 1 l7, .list 1 l8, .list 1 l9, .int .i64 x10, .int .i64 x11] = (evF En n 17 [.int .i64 x0, .int .i64 x1, .list 3 l2, .int .i64 x3, .int .i64 x4, .list 7 l5, .list 8 l6, .list 1 l7, .list 1 l8, .list 1 l9]).bind fun r0 => (asBool (r0[0]?)).bind fun c1 => 
  (bif c1 then some [.bool true]
   else (evF En n 18 [.int .i64 x0, .int .i64 x1, .list 3 l2, .int .i64 x3, .int .i64 x4, .list 7 l5, .list 1 l8, .int .i64 x10, .int .i64 x11]).bind fun r2 => (asInt .i64 (r2[0]?)).bind fun n3 => (asInt .i64 (r2[1]?)).bind fun n4 => (asBool (r2[2]?)).bind fun c5 => (evF En n 19 [.int .i64 x0, .int .i64 x1, .list 3 l2, .int .i64 x3, .int .i64 x4, .list 7 l5, .list 1 l8, .int .i64 x10, .int .i64 x11]).bind fun r6 => (asInt .i64 (r6[0]?)).bind fun n7 => (asInt .i64 (r6[1]?)).bind fun n8 => (asBool (r6[2]?)).bind fun c9 => 
    (bif (n3 == n7) then 
      (bif (n4 == n8) then some [.bool (c5 == c9)]
       else some [.bool false])
     else some [.bool false])) := by kernel_rfl
noncomputable def noonbelllaw17_heavy.l3 (n : Nat) (ms : List Nat) (m : Nat) (L : List FV) : Res := Lp En n 17 [1, 1, 0, 1, 0] ms m L
noncomputable def noonbelllaw17_heavy.l7 (n : Nat) (ms : List Nat) (m : Nat) (L : List FV) : Res := Lp En n 17 [1, 1, 1, 0, 1, 0] ms m L
noncomputable def noonbelllaw17_heavy.l11 (n : Nat) (ms : List Nat) (m : Nat) (L : List FV) : Res := Lp En n 17 [1, 1, 1, 0, 1, 0, 0, 1, 0, 0, 1, 1, 0] ms m L
noncomputable def noonbelllaw17_heavy.l15 (n : Nat) (ms : List Nat) (m : Nat) (L : List FV) : Res := Lp En n 17 [1, 1, 1, 1, 0, 1, 0] ms m L
theorem noonbelllaw17_heavy.l3_eq (n m : Nat) (x0 : Int) (x1 : Int) (l2 : List FV) (x3 : Int) (x4 : Int) (l5 : List FV) (l6 : List FV) (l7 : List FV) (l8 : List FV) (l9 : List FV) (x10 : Int) (x11 : Int) : noonbelllaw17_heavy.l3 n [] (m + 1) [.int .i64 x0, .int .i64 x1, .list 3 l2, .int .i64 x3, .int .i64 x4, .list 7 l5, .list 8 l6, .list 1 l7, .list 1 l8, .list 1 l9, .int .i64 x10, .int .i64 x11] = 
  (bif (decide (x11 < (l8.length : Int))) then 
    (bif (decide (x10 ≤ 256)) then (ix x11 l8.length).bind fun i0 => (asStr (at' l8 i0 0)).bind fun u1 => noonbelllaw17_heavy.l3 n [] m [.int .i64 x0, .int .i64 x1, .list 3 l2, .int .i64 x3, .int .i64 x4, .list 7 l5, .list 8 l6, .list 1 l7, .list 1 l8, .list 1 l9, .int .i64 (Go.IntKind.wrap .i64 (x10 + (Go.IntKind.wrap .i64 (1 + (if 1048576 < (u1.size : Int) then 1048576 else (u1.size : Int)))))), .int .i64 (Go.IntKind.wrap .i64 (x11 + 1))]
     else noonbelllaw17_heavy.l7 n [] n [.int .i64 x0, .int .i64 x1, .list 3 l2, .int .i64 x3, .int .i64 x4, .list 7 l5, .list 8 l6, .list 1 l7, .list 1 l8, .list 1 l9, .int .i64 x10, .int .i64 0])
   else noonbelllaw17_heavy.l7 n [] n [.int .i64 x0, .int .i64 x1, .list 3 l2, .int .i64 x3, .int .i64 x4, .list 7 l5, .list 8 l6, .list 1 l7, .list 1 l8, .list 1 l9, .int .i64 x10, .int .i64 0]) := by kernel_rfl
theorem noonbelllaw17_heavy.l7_eq (n m : Nat) (x0 : Int) (x1 : Int) (l2 : List FV) (x3 : Int) (x4 : Int) (l5 : List FV) (l6 : List FV) (l7 : List FV) (l8 : List FV) (l9 : List FV) (x10 : Int) (x11 : Int) : noonbelllaw17_heavy.l7 n [] (m + 1) [.int .i64 x0, .int .i64 x1, .list 3 l2, .int .i64 x3, .int .i64 x4, .list 7 l5, .list 8 l6, .list 1 l7, .list 1 l8, .list 1 l9, .int .i64 x10, .int .i64 x11] = 
  (bif (decide (x11 < (l9.length : Int))) then 
    (bif (decide (x10 ≤ 256)) then noonbelllaw17_heavy.l11 n [m] n [.int .i64 x0, .int .i64 x1, .list 3 l2, .int .i64 x3, .int .i64 x4, .list 7 l5, .list 8 l6, .list 1 l7, .list 1 l8, .list 1 l9, .int .i64 (Go.IntKind.wrap .i64 (x10 + 1)), .int .i64 x11, .int .i64 0]
     else noonbelllaw17_heavy.l15 n [] n [.int .i64 x0, .int .i64 x1, .list 3 l2, .int .i64 x3, .int .i64 x4, .list 7 l5, .list 8 l6, .list 1 l7, .list 1 l8, .list 1 l9, .int .i64 x10, .int .i64 0])
   else noonbelllaw17_heavy.l15 n [] n [.int .i64 x0, .int .i64 x1, .list 3 l2, .int .i64 x3, .int .i64 x4, .list 7 l5, .list 8 l6, .list 1 l7, .list 1 l8, .list 1 l9, .int .i64 x10, .int .i64 0]) := by kernel_rfl
theorem noonbelllaw17_heavy.l11_eq (n m m0 : Nat) (x0 : Int) (x1 : Int) (l2 : List FV) (x3 : Int) (x4 : Int) (l5 : List FV) (l6 : List FV) (l7 : List FV) (l8 : List FV) (l9 : List FV) (x10 : Int) (x11 : Int) (x12 : Int) : noonbelllaw17_heavy.l11 n [m0] (m + 1) [.int .i64 x0, .int .i64 x1, .list 3 l2, .int .i64 x3, .int .i64 x4, .list 7 l5, .list 8 l6, .list 1 l7, .list 1 l8, .list 1 l9, .int .i64 x10, .int .i64 x11, .int .i64 x12] = (ix x11 l9.length).bind fun i0 => (asLst 1 (at' l9 i0 0)).bind fun v1 => 
  (bif (decide (x12 < (v1.length : Int))) then 
    (bif (decide (x10 ≤ 256)) then (ix x11 l9.length).bind fun i2 => (asLst 1 (at' l9 i2 0)).bind fun v3 => (ix x12 v3.length).bind fun i4 => (asStr (at' v3 i4 0)).bind fun u5 => noonbelllaw17_heavy.l11 n [m0] m [.int .i64 x0, .int .i64 x1, .list 3 l2, .int .i64 x3, .int .i64 x4, .list 7 l5, .list 8 l6, .list 1 l7, .list 1 l8, .list 1 l9, .int .i64 (Go.IntKind.wrap .i64 (x10 + (Go.IntKind.wrap .i64 (1 + (if 1048576 < (u5.size : Int) then 1048576 else (u5.size : Int)))))), .int .i64 x11, .int .i64 (Go.IntKind.wrap .i64 (x12 + 1))]
     else noonbelllaw17_heavy.l7 n [] m0 [.int .i64 x0, .int .i64 x1, .list 3 l2, .int .i64 x3, .int .i64 x4, .list 7 l5, .list 8 l6, .list 1 l7, .list 1 l8, .list 1 l9, .int .i64 x10, .int .i64 (Go.IntKind.wrap .i64 (x11 + 1))])
   else noonbelllaw17_heavy.l7 n [] m0 [.int .i64 x0, .int .i64 x1, .list 3 l2, .int .i64 x3, .int .i64 x4, .list 7 l5, .list 8 l6, .list 1 l7, .list 1 l8, .list 1 l9, .int .i64 x10, .int .i64 (Go.IntKind.wrap .i64 (x11 + 1))]) := by kernel_rfl
theorem noonbelllaw17_heavy.l15_eq (n m : Nat) (x0 : Int) (x1 : Int) (l2 : List FV) (x3 : Int) (x4 : Int) (l5 : List FV) (l6 : List FV) (l7 : List FV) (l8 : List FV) (l9 : List FV) (x10 : Int) (x11 : Int) : noonbelllaw17_heavy.l15 n [] (m + 1) [.int .i64 x0, .int .i64 x1, .list 3 l2, .int .i64 x3, .int .i64 x4, .list 7 l5, .list 8 l6, .list 1 l7, .list 1 l8, .list 1 l9, .int .i64 x10, .int .i64 x11] = 
  (bif (decide (x11 < (l6.length : Int))) then 
    (bif (decide (x10 ≤ 256)) then (ix x11 l6.length).bind fun i0 => (asLst 1 (at' l6 i0 5)).bind fun v1 => noonbelllaw17_heavy.l15 n [] m [.int .i64 x0, .int .i64 x1, .list 3 l2, .int .i64 x3, .int .i64 x4, .list 7 l5, .list 8 l6, .list 1 l7, .list 1 l8, .list 1 l9, .int .i64 (Go.IntKind.wrap .i64 (x10 + (if 1048576 < (v1.length : Int) then 1048576 else (v1.length : Int)))), .int .i64 (Go.IntKind.wrap .i64 (x11 + 1))]
     else 
      (bif (decide (x10 > 256)) then some [.bool true]
       else 
        (bif (decide ((l5.length : Int) > 8)) then some [.bool true]
         else some [.bool (decide ((l6.length : Int) > 4))])))
   else 
    (bif (decide (x10 > 256)) then some [.bool true]
     else 
      (bif (decide ((l5.length : Int) > 8)) then some [.bool true]
       else some [.bool (decide ((l6.length : Int) > 4))]))) := by kernel_rfl
theorem noonbelllaw17_heavy_eq (n : Nat) (x0 : Int) (x1 : Int) (l2 : List FV) (x3 : Int) (x4 : Int) (l5 : List FV) (l6 : List FV) (l7 : List FV) (l8 : List FV) (l9 : List FV) : evF En (n + 1) 17 [.int .i64 x0, .int .i64 x1, .list 3 l2, .int .i64 x3, .int .i64 x4, .list 7 l5, .list 8 l6, .list 1 l7, .list 1 l8, .list 1 l9] = noonbelllaw17_heavy.l3 n [] n [.int .i64 x0, .int .i64 x1, .list 3 l2, .int .i64 x3, .int .i64 x4, .list 7 l5, .list 8 l6, .list 1 l7, .list 1 l8, .list 1 l9, .int .i64 (Go.IntKind.wrap .i64 ((l2.length : Int) + (l7.length : Int))), .int .i64 0] := by kernel_rfl
theorem price_Bounds_eq (n : Nat) (x0 : Int) (x1 : Int) (l2 : List FV) (x3 : Int) (x4 : Int) (l5 : List FV) (l6 : List FV) (x7 : Int) (x8 : Int) : evF En (n + 1) 18 [.int .i64 x0, .int .i64 x1, .list 3 l2, .int .i64 x3, .int .i64 x4, .list 7 l5, .list 1 l6, .int .i64 x7, .int .i64 x8] = (evF En n 57 [.list 7 l5, .list 1 l6]).bind fun r0 => (asLst 4 (r0[0]?)).bind fun v1 => (asBool (r0[1]?)).bind fun c2 => 
  (bif (!c2) then some [.int .i64 0, .int .i64 0, .bool false]
   else (evF En n 58 [.int .i64 x0, .int .i64 x1, .list 3 l2, .int .i64 x3, .int .i64 x4, .list 7 l5, .list 8 []]).bind fun r3 => (asBool (r3[0]?)).bind fun c4 => 
    (bif (!c4) then some [.int .i64 0, .int .i64 0, .bool false]
     else 
      (bif (decide (x7 < 0)) then some [.int .i64 0, .int .i64 0, .bool false]
       else 
        (bif (decide (x7 ≥ x1)) then some [.int .i64 0, .int .i64 0, .bool false]
         else 
          (bif (decide (x8 < 0)) then some [.int .i64 0, .int .i64 0, .bool false]
           else 
            (bif (decide (x8 ≥ x0)) then some [.int .i64 0, .int .i64 0, .bool false]
             else (evF En n 59 [.int .i64 x0, .int .i64 x1, .list 3 l2, .int .i64 x3, .int .i64 x4, .list 7 l5, .list 4 v1, .int .i64 x7, .int .i64 x8]).bind fun r5 => (asInt .i64 (r5[0]?)).bind fun n6 => (asInt .i64 (r5[1]?)).bind fun n7 => 
              (bif (decide (n6 > n7)) then some [.int .i64 0, .int .i64 0, .bool false]
               else some [.int .i64 n6, .int .i64 n7, .bool true]))))))) := by kernel_rfl
noncomputable def noonbellref17_Bounds.l7 (n : Nat) (ms : List Nat) (m : Nat) (L : List FV) : Res := Lp En n 19 [1, 1, 1, 1, 1, 0, 1, 0] ms m L
theorem noonbellref17_Bounds.l7_eq (n m : Nat) (l0 : List FV) (x1 : Int) (x2 : Int) (x3 : Int) (x4 : Int) (l5 : List FV) (x6 : Int) : noonbellref17_Bounds.l7 n [] (m + 1) [.list 7 l0, .int .i64 x1, .int .i64 x2, .int .i64 x3, .int .i64 x4, .list 4 l5, .int .i64 x6] = 
  (bif (decide (x6 < (l0.length : Int))) then (ix x6 l0.length).bind fun i0 => (asStr (at' l0 i0 0)).bind fun u1 => (asInt .i64 (at' l0 i0 1)).bind fun n2 => (asInt .i64 (at' l0 i0 2)).bind fun n3 => (asInt .i64 (at' l0 i0 3)).bind fun n4 => (asBool (at' l0 i0 4)).bind fun c5 => (asInt .i64 (at' l0 i0 5)).bind fun n6 => (asInt .i64 (at' l0 i0 6)).bind fun n7 => 
    (bif (n4 != x1) then noonbellref17_Bounds.l7 n [] m [.list 7 l0, .int .i64 x1, .int .i64 x2, .int .i64 x3, .int .i64 x4, .list 4 l5, .int .i64 (Go.IntKind.wrap .i64 (x6 + 1))]
     else 
      (bif (n3 != x2) then noonbellref17_Bounds.l7 n [] m [.list 7 l0, .int .i64 x1, .int .i64 x2, .int .i64 x3, .int .i64 x4, .list 4 l5, .int .i64 (Go.IntKind.wrap .i64 (x6 + 1))]
       else (ix x6 l5.length).bind fun i8 => (asBool (at' l5 i8 0)).bind fun c9 => (asLst 1 (at' l5 i8 1)).bind fun v10 => (asBool (at' l5 i8 2)).bind fun c11 => (asLst 1 (at' l5 i8 3)).bind fun v12 => (evF En n 62 [.bool c9, .list 1 v10, .bool c11, .list 1 v12]).bind fun r13 => (asInt .i64 (r13[0]?)).bind fun n14 => (ix x6 l5.length).bind fun i15 => (asBool (at' l5 i15 0)).bind fun c16 => (asLst 1 (at' l5 i15 1)).bind fun v17 => (asBool (at' l5 i15 2)).bind fun c18 => (asLst 1 (at' l5 i15 3)).bind fun v19 => (evF En n 14 [.int .i64 n6]).bind fun r20 => (asBool (r20[0]?)).bind fun c21 => (asLst 1 (r20[1]?)).bind fun v22 => (asBool (r20[2]?)).bind fun c23 => (asLst 1 (r20[3]?)).bind fun v24 => (evF En n 63 [.bool c16, .list 1 v17, .bool c18, .list 1 v19, .bool c21, .list 1 v22, .bool c23, .list 1 v24]).bind fun r25 => (asInt .i64 (r25[0]?)).bind fun n26 => 
        (bif c5 then 
          (bif (!(n26 == 0)) then 
            (bif c5 then 
              (bif (decide (n14 > 0)) then noonbellref17_Bounds.l7 n [] m [.list 7 l0, .int .i64 x1, .int .i64 x2, .int .i64 (if x3 < n7 then n7 else x3), .int .i64 (if n7 < x4 then n7 else x4), .list 4 l5, .int .i64 (Go.IntKind.wrap .i64 (x6 + 1))]
               else 
                (bif (!c5) then 
                  (bif (!(n26 == 0)) then noonbellref17_Bounds.l7 n [] m [.list 7 l0, .int .i64 x1, .int .i64 x2, .int .i64 (if x3 < n7 then n7 else x3), .int .i64 (if n7 < x4 then n7 else x4), .list 4 l5, .int .i64 (Go.IntKind.wrap .i64 (x6 + 1))]
                   else noonbellref17_Bounds.l7 n [] m [.list 7 l0, .int .i64 x1, .int .i64 x2, .int .i64 (if x3 < n7 then n7 else x3), .int .i64 x4, .list 4 l5, .int .i64 (Go.IntKind.wrap .i64 (x6 + 1))])
                 else noonbellref17_Bounds.l7 n [] m [.list 7 l0, .int .i64 x1, .int .i64 x2, .int .i64 (if x3 < n7 then n7 else x3), .int .i64 x4, .list 4 l5, .int .i64 (Go.IntKind.wrap .i64 (x6 + 1))]))
             else 
              (bif (!c5) then 
                (bif (!(n26 == 0)) then noonbellref17_Bounds.l7 n [] m [.list 7 l0, .int .i64 x1, .int .i64 x2, .int .i64 (if x3 < n7 then n7 else x3), .int .i64 (if n7 < x4 then n7 else x4), .list 4 l5, .int .i64 (Go.IntKind.wrap .i64 (x6 + 1))]
                 else noonbellref17_Bounds.l7 n [] m [.list 7 l0, .int .i64 x1, .int .i64 x2, .int .i64 (if x3 < n7 then n7 else x3), .int .i64 x4, .list 4 l5, .int .i64 (Go.IntKind.wrap .i64 (x6 + 1))])
               else noonbellref17_Bounds.l7 n [] m [.list 7 l0, .int .i64 x1, .int .i64 x2, .int .i64 (if x3 < n7 then n7 else x3), .int .i64 x4, .list 4 l5, .int .i64 (Go.IntKind.wrap .i64 (x6 + 1))]))
           else 
            (bif (!c5) then 
              (bif (decide (n14 > 0)) then 
                (bif c5 then 
                  (bif (decide (n14 > 0)) then noonbellref17_Bounds.l7 n [] m [.list 7 l0, .int .i64 x1, .int .i64 x2, .int .i64 (if x3 < n7 then n7 else x3), .int .i64 (if n7 < x4 then n7 else x4), .list 4 l5, .int .i64 (Go.IntKind.wrap .i64 (x6 + 1))]
                   else 
                    (bif (!c5) then 
                      (bif (!(n26 == 0)) then noonbellref17_Bounds.l7 n [] m [.list 7 l0, .int .i64 x1, .int .i64 x2, .int .i64 (if x3 < n7 then n7 else x3), .int .i64 (if n7 < x4 then n7 else x4), .list 4 l5, .int .i64 (Go.IntKind.wrap .i64 (x6 + 1))]
                       else noonbellref17_Bounds.l7 n [] m [.list 7 l0, .int .i64 x1, .int .i64 x2, .int .i64 (if x3 < n7 then n7 else x3), .int .i64 x4, .list 4 l5, .int .i64 (Go.IntKind.wrap .i64 (x6 + 1))])
                     else noonbellref17_Bounds.l7 n [] m [.list 7 l0, .int .i64 x1, .int .i64 x2, .int .i64 (if x3 < n7 then n7 else x3), .int .i64 x4, .list 4 l5, .int .i64 (Go.IntKind.wrap .i64 (x6 + 1))]))
                 else 
                  (bif (!c5) then 
                    (bif (!(n26 == 0)) then noonbellref17_Bounds.l7 n [] m [.list 7 l0, .int .i64 x1, .int .i64 x2, .int .i64 (if x3 < n7 then n7 else x3), .int .i64 (if n7 < x4 then n7 else x4), .list 4 l5, .int .i64 (Go.IntKind.wrap .i64 (x6 + 1))]
                     else noonbellref17_Bounds.l7 n [] m [.list 7 l0, .int .i64 x1, .int .i64 x2, .int .i64 (if x3 < n7 then n7 else x3), .int .i64 x4, .list 4 l5, .int .i64 (Go.IntKind.wrap .i64 (x6 + 1))])
                   else noonbellref17_Bounds.l7 n [] m [.list 7 l0, .int .i64 x1, .int .i64 x2, .int .i64 (if x3 < n7 then n7 else x3), .int .i64 x4, .list 4 l5, .int .i64 (Go.IntKind.wrap .i64 (x6 + 1))]))
               else 
                (bif c5 then 
                  (bif (decide (n14 > 0)) then noonbellref17_Bounds.l7 n [] m [.list 7 l0, .int .i64 x1, .int .i64 x2, .int .i64 x3, .int .i64 (if n7 < x4 then n7 else x4), .list 4 l5, .int .i64 (Go.IntKind.wrap .i64 (x6 + 1))]
                   else 
                    (bif (!c5) then 
                      (bif (!(n26 == 0)) then noonbellref17_Bounds.l7 n [] m [.list 7 l0, .int .i64 x1, .int .i64 x2, .int .i64 x3, .int .i64 (if n7 < x4 then n7 else x4), .list 4 l5, .int .i64 (Go.IntKind.wrap .i64 (x6 + 1))]
                       else noonbellref17_Bounds.l7 n [] m [.list 7 l0, .int .i64 x1, .int .i64 x2, .int .i64 x3, .int .i64 x4, .list 4 l5, .int .i64 (Go.IntKind.wrap .i64 (x6 + 1))])
                     else noonbellref17_Bounds.l7 n [] m [.list 7 l0, .int .i64 x1, .int .i64 x2, .int .i64 x3, .int .i64 x4, .list 4 l5, .int .i64 (Go.IntKind.wrap .i64 (x6 + 1))]))
                 else 
                  (bif (!c5) then 
                    (bif (!(n26 == 0)) then noonbellref17_Bounds.l7 n [] m [.list 7 l0, .int .i64 x1, .int .i64 x2, .int .i64 x3, .int .i64 (if n7 < x4 then n7 else x4), .list 4 l5, .int .i64 (Go.IntKind.wrap .i64 (x6 + 1))]
                     else noonbellref17_Bounds.l7 n [] m [.list 7 l0, .int .i64 x1, .int .i64 x2, .int .i64 x3, .int .i64 x4, .list 4 l5, .int .i64 (Go.IntKind.wrap .i64 (x6 + 1))])
                   else noonbellref17_Bounds.l7 n [] m [.list 7 l0, .int .i64 x1, .int .i64 x2, .int .i64 x3, .int .i64 x4, .list 4 l5, .int .i64 (Go.IntKind.wrap .i64 (x6 + 1))])))
             else 
              (bif c5 then 
                (bif (decide (n14 > 0)) then noonbellref17_Bounds.l7 n [] m [.list 7 l0, .int .i64 x1, .int .i64 x2, .int .i64 x3, .int .i64 (if n7 < x4 then n7 else x4), .list 4 l5, .int .i64 (Go.IntKind.wrap .i64 (x6 + 1))]
                 else 
                  (bif (!c5) then 
                    (bif (!(n26 == 0)) then noonbellref17_Bounds.l7 n [] m [.list 7 l0, .int .i64 x1, .int .i64 x2, .int .i64 x3, .int .i64 (if n7 < x4 then n7 else x4), .list 4 l5, .int .i64 (Go.IntKind.wrap .i64 (x6 + 1))]
                     else noonbellref17_Bounds.l7 n [] m [.list 7 l0, .int .i64 x1, .int .i64 x2, .int .i64 x3, .int .i64 x4, .list 4 l5, .int .i64 (Go.IntKind.wrap .i64 (x6 + 1))])
                   else noonbellref17_Bounds.l7 n [] m [.list 7 l0, .int .i64 x1, .int .i64 x2, .int .i64 x3, .int .i64 x4, .list 4 l5, .int .i64 (Go.IntKind.wrap .i64 (x6 + 1))]))
               else 
                (bif (!c5) then 
                  (bif (!(n26 == 0)) then noonbellref17_Bounds.l7 n [] m [.list 7 l0, .int .i64 x1, .int .i64 x2, .int .i64 x3, .int .i64 (if n7 < x4 then n7 else x4), .list 4 l5, .int .i64 (Go.IntKind.wrap .i64 (x6 + 1))]
                   else noonbellref17_Bounds.l7 n [] m [.list 7 l0, .int .i64 x1, .int .i64 x2, .int .i64 x3, .int .i64 x4, .list 4 l5, .int .i64 (Go.IntKind.wrap .i64 (x6 + 1))])
                 else noonbellref17_Bounds.l7 n [] m [.list 7 l0, .int .i64 x1, .int .i64 x2, .int .i64 x3, .int .i64 x4, .list 4 l5, .int .i64 (Go.IntKind.wrap .i64 (x6 + 1))]))))
         else 
          (bif (!c5) then 
            (bif (decide (n14 > 0)) then 
              (bif c5 then 
                (bif (decide (n14 > 0)) then noonbellref17_Bounds.l7 n [] m [.list 7 l0, .int .i64 x1, .int .i64 x2, .int .i64 (if x3 < n7 then n7 else x3), .int .i64 (if n7 < x4 then n7 else x4), .list 4 l5, .int .i64 (Go.IntKind.wrap .i64 (x6 + 1))]
                 else 
                  (bif (!c5) then 
                    (bif (!(n26 == 0)) then noonbellref17_Bounds.l7 n [] m [.list 7 l0, .int .i64 x1, .int .i64 x2, .int .i64 (if x3 < n7 then n7 else x3), .int .i64 (if n7 < x4 then n7 else x4), .list 4 l5, .int .i64 (Go.IntKind.wrap .i64 (x6 + 1))]
                     else noonbellref17_Bounds.l7 n [] m [.list 7 l0, .int .i64 x1, .int .i64 x2, .int .i64 (if x3 < n7 then n7 else x3), .int .i64 x4, .list 4 l5, .int .i64 (Go.IntKind.wrap .i64 (x6 + 1))])
                   else noonbellref17_Bounds.l7 n [] m [.list 7 l0, .int .i64 x1, .int .i64 x2, .int .i64 (if x3 < n7 then n7 else x3), .int .i64 x4, .list 4 l5, .int .i64 (Go.IntKind.wrap .i64 (x6 + 1))]))
               else 
                (bif (!c5) then 
                  (bif (!(n26 == 0)) then noonbellref17_Bounds.l7 n [] m [.list 7 l0, .int .i64 x1, .int .i64 x2, .int .i64 (if x3 < n7 then n7 else x3), .int .i64 (if n7 < x4 then n7 else x4), .list 4 l5, .int .i64 (Go.IntKind.wrap .i64 (x6 + 1))]
                   else noonbellref17_Bounds.l7 n [] m [.list 7 l0, .int .i64 x1, .int .i64 x2, .int .i64 (if x3 < n7 then n7 else x3), .int .i64 x4, .list 4 l5, .int .i64 (Go.IntKind.wrap .i64 (x6 + 1))])
                 else noonbellref17_Bounds.l7 n [] m [.list 7 l0, .int .i64 x1, .int .i64 x2, .int .i64 (if x3 < n7 then n7 else x3), .int .i64 x4, .list 4 l5, .int .i64 (Go.IntKind.wrap .i64 (x6 + 1))]))
             else 
              (bif c5 then 
                (bif (decide (n14 > 0)) then noonbellref17_Bounds.l7 n [] m [.list 7 l0, .int .i64 x1, .int .i64 x2, .int .i64 x3, .int .i64 (if n7 < x4 then n7 else x4), .list 4 l5, .int .i64 (Go.IntKind.wrap .i64 (x6 + 1))]
                 else 
                  (bif (!c5) then 
                    (bif (!(n26 == 0)) then noonbellref17_Bounds.l7 n [] m [.list 7 l0, .int .i64 x1, .int .i64 x2, .int .i64 x3, .int .i64 (if n7 < x4 then n7 else x4), .list 4 l5, .int .i64 (Go.IntKind.wrap .i64 (x6 + 1))]
                     else noonbellref17_Bounds.l7 n [] m [.list 7 l0, .int .i64 x1, .int .i64 x2, .int .i64 x3, .int .i64 x4, .list 4 l5, .int .i64 (Go.IntKind.wrap .i64 (x6 + 1))])
                   else noonbellref17_Bounds.l7 n [] m [.list 7 l0, .int .i64 x1, .int .i64 x2, .int .i64 x3, .int .i64 x4, .list 4 l5, .int .i64 (Go.IntKind.wrap .i64 (x6 + 1))]))
               else 
                (bif (!c5) then 
                  (bif (!(n26 == 0)) then noonbellref17_Bounds.l7 n [] m [.list 7 l0, .int .i64 x1, .int .i64 x2, .int .i64 x3, .int .i64 (if n7 < x4 then n7 else x4), .list 4 l5, .int .i64 (Go.IntKind.wrap .i64 (x6 + 1))]
                   else noonbellref17_Bounds.l7 n [] m [.list 7 l0, .int .i64 x1, .int .i64 x2, .int .i64 x3, .int .i64 x4, .list 4 l5, .int .i64 (Go.IntKind.wrap .i64 (x6 + 1))])
                 else noonbellref17_Bounds.l7 n [] m [.list 7 l0, .int .i64 x1, .int .i64 x2, .int .i64 x3, .int .i64 x4, .list 4 l5, .int .i64 (Go.IntKind.wrap .i64 (x6 + 1))])))
           else 
            (bif c5 then 
              (bif (decide (n14 > 0)) then noonbellref17_Bounds.l7 n [] m [.list 7 l0, .int .i64 x1, .int .i64 x2, .int .i64 x3, .int .i64 (if n7 < x4 then n7 else x4), .list 4 l5, .int .i64 (Go.IntKind.wrap .i64 (x6 + 1))]
               else 
                (bif (!c5) then 
                  (bif (!(n26 == 0)) then noonbellref17_Bounds.l7 n [] m [.list 7 l0, .int .i64 x1, .int .i64 x2, .int .i64 x3, .int .i64 (if n7 < x4 then n7 else x4), .list 4 l5, .int .i64 (Go.IntKind.wrap .i64 (x6 + 1))]
                   else noonbellref17_Bounds.l7 n [] m [.list 7 l0, .int .i64 x1, .int .i64 x2, .int .i64 x3, .int .i64 x4, .list 4 l5, .int .i64 (Go.IntKind.wrap .i64 (x6 + 1))])
                 else noonbellref17_Bounds.l7 n [] m [.list 7 l0, .int .i64 x1, .int .i64 x2, .int .i64 x3, .int .i64 x4, .list 4 l5, .int .i64 (Go.IntKind.wrap .i64 (x6 + 1))]))
             else 
              (bif (!c5) then 
                (bif (!(n26 == 0)) then noonbellref17_Bounds.l7 n [] m [.list 7 l0, .int .i64 x1, .int .i64 x2, .int .i64 x3, .int .i64 (if n7 < x4 then n7 else x4), .list 4 l5, .int .i64 (Go.IntKind.wrap .i64 (x6 + 1))]
                 else noonbellref17_Bounds.l7 n [] m [.list 7 l0, .int .i64 x1, .int .i64 x2, .int .i64 x3, .int .i64 x4, .list 4 l5, .int .i64 (Go.IntKind.wrap .i64 (x6 + 1))])
               else noonbellref17_Bounds.l7 n [] m [.list 7 l0, .int .i64 x1, .int .i64 x2, .int .i64 x3, .int .i64 x4, .list 4 l5, .int .i64 (Go.IntKind.wrap .i64 (x6 + 1))]))))))
   else 
    (bif (decide (x3 > x4)) then some [.int .i64 0, .int .i64 0, .bool false]
     else some [.int .i64 x3, .int .i64 x4, .bool true])) := by kernel_rfl
theorem noonbellref17_Bounds_eq (n : Nat) (x0 : Int) (x1 : Int) (l2 : List FV) (x3 : Int) (x4 : Int) (l5 : List FV) (l6 : List FV) (x7 : Int) (x8 : Int) : evF En (n + 1) 19 [.int .i64 x0, .int .i64 x1, .list 3 l2, .int .i64 x3, .int .i64 x4, .list 7 l5, .list 1 l6, .int .i64 x7, .int .i64 x8] = (evF En n 60 [.int .i64 x0, .int .i64 x1, .list 3 l2, .int .i64 x3, .int .i64 x4, .list 7 l5, .list 8 [], .list 1 l6]).bind fun r0 => (asBool (r0[0]?)).bind fun c1 => 
  (bif (!c1) then some [.int .i64 0, .int .i64 0, .bool false]
   else 
    (bif (decide (x7 < 0)) then some [.int .i64 0, .int .i64 0, .bool false]
     else 
      (bif (decide (x7 ≥ x1)) then some [.int .i64 0, .int .i64 0, .bool false]
       else 
        (bif (decide (x8 < 0)) then some [.int .i64 0, .int .i64 0, .bool false]
         else 
          (bif (decide (x8 ≥ x0)) then some [.int .i64 0, .int .i64 0, .bool false]
           else (evF En n 61 [.list 1 l6]).bind fun r2 => (asLst 4 (r2[0]?)).bind fun v3 => (asInt .i64 (r2[1]?)).bind fun n4 => noonbellref17_Bounds.l7 n [] n [.list 7 l5, .int .i64 x7, .int .i64 x8, .int .i64 x3, .int .i64 x4, .list 4 v3, .int .i64 0]))))) := by kernel_rfl
theorem result_fits_eq (n : Nat) (x0 : Int) (x1 : Int) (x2 : Int) : evF En (n + 1) 40 [.int .i64 x0, .int .i64 x1, .int .i64 x2] = 
  (bif (decide (x1 ≤ x0)) then some [.bool (decide (x0 ≤ x2))]
   else some [.bool false]) := by kernel_rfl
noncomputable def price_taken.l5 (n : Nat) (ms : List Nat) (m : Nat) (L : List FV) : Res := Lp En n 57 [1, 1, 1, 0, 1, 0] ms m L
theorem price_taken.l5_eq (n m : Nat) (l0 : List FV) (l1 : List FV) (l2 : List FV) (x3 : Int) (x4 : Int) : price_taken.l5 n [] (m + 1) [.list 7 l0, .list 4 l1, .list 1 l2, .int .i64 x3, .int .i64 x4] = 
  (bif (decide (x4 < x3)) then (ix x4 l2.length).bind fun i0 => (asStr (at' l2 i0 0)).bind fun u1 => (evF En n 42 [.str u1]).bind fun r2 => (asLst 1 (r2[0]?)).bind fun v3 => (asBool (r2[1]?)).bind fun c4 => (asLst 1 (r2[2]?)).bind fun v5 => (asBool (r2[3]?)).bind fun c6 => (asInt .i64 (r2[4]?)).bind fun n7 => 
    (bif (n7 != 0) then some [.list 4 [], .bool false]
     else (evF En n 95 [.list 1 v3, .bool c4, .list 1 v5, .bool c6]).bind fun r8 => (asInt .i64 (r8[0]?)).bind fun n9 => 
      (bif (decide (n9 < 0)) then some [.list 4 [], .bool false]
       else (ix x4 l0.length).bind fun i10 => (asInt .i64 (at' l0 i10 5)).bind fun n11 => (evF En n 45 [.int .i64 n11]).bind fun r12 => (asLst 1 (r12[0]?)).bind fun v13 => (asBool (r12[1]?)).bind fun c14 => (asLst 1 (r12[2]?)).bind fun v15 => (asBool (r12[3]?)).bind fun c16 => (evF En n 96 [.list 1 v3, .bool c4, .list 1 v5, .bool c6, .list 1 v13, .bool c14, .list 1 v15, .bool c16]).bind fun r17 => (asInt .i64 (r17[0]?)).bind fun n18 => 
        (bif (decide (n18 > 0)) then some [.list 4 [], .bool false]
         else (ix x4 l1.length).bind fun i19 => price_taken.l5 n [] m [.list 7 l0, .list 4 (List.set l1 i19 (.agg [.list 1 v3, .bool c4, .list 1 v5, .bool c6])), .list 1 l2, .int .i64 x3, .int .i64 (Go.IntKind.wrap .i64 (x4 + 1))])))
   else some [.list 4 l1, .bool true]) := by kernel_rfl
theorem price_taken_eq (n : Nat) (l0 : List FV) (l1 : List FV) : evF En (n + 1) 57 [.list 7 l0, .list 1 l1] = 
  (bif ((l1.length : Int) != (l0.length : Int)) then some [.list 4 [], .bool false]
   else (mkLen 64 (l1.length : Int)).bind fun i0 => (bd (l1.length : Int) i0).bind fun i1 => price_taken.l5 n [] n [.list 7 l0, .list 4 (List.replicate i1 (.agg [.list 1 [], .bool false, .list 1 [], .bool false] : FV)), .list 1 l1, .int .i64 (l1.length : Int), .int .i64 0]) := by kernel_rfl
noncomputable def result_Orders.l4 (n : Nat) (ms : List Nat) (m : Nat) (L : List FV) : Res := Lp En n 58 [1, 1, 0, 1, 0] ms m L
noncomputable def result_Orders.l11 (n : Nat) (ms : List Nat) (m : Nat) (L : List FV) : Res := Lp En n 58 [1, 1, 1, 1, 0, 1, 0] ms m L
noncomputable def result_Orders.l19 (n : Nat) (ms : List Nat) (m : Nat) (L : List FV) : Res := Lp En n 58 [1, 1, 1, 1, 1, 1, 0, 1, 0] ms m L
theorem result_Orders.l4_eq (n m : Nat) (x0 : Int) (x1 : Int) (l2 : List FV) (x3 : Int) (x4 : Int) (l5 : List FV) (l6 : List FV) (l7 : List FV) (x8 : Int) (x9 : Int) : result_Orders.l4 n [] (m + 1) [.int .i64 x0, .int .i64 x1, .list 3 l2, .int .i64 x3, .int .i64 x4, .list 7 l5, .list 8 l6, .list 7 l7, .int .i64 x8, .int .i64 x9] = 
  (bif (decide (x9 < x8)) then (ix x9 l7.length).bind fun i0 => (asStr (at' l7 i0 0)).bind fun u1 => (asInt .i64 (at' l7 i0 1)).bind fun n2 => (asInt .i64 (at' l7 i0 2)).bind fun n3 => (asInt .i64 (at' l7 i0 3)).bind fun n4 => (asBool (at' l7 i0 4)).bind fun c5 => (asInt .i64 (at' l7 i0 5)).bind fun n6 => (asInt .i64 (at' l7 i0 6)).bind fun n7 => (evF En n 40 [.int .i64 n3, .int .i64 0, .int .i64 (Go.IntKind.wrap .i64 (x0 - 1))]).bind fun r8 => (asBool (r8[0]?)).bind fun c9 => 
    (bif (!c9) then some [.bool false]
     else (evF En n 40 [.int .i64 n4, .int .i64 0, .int .i64 (Go.IntKind.wrap .i64 (x1 - 1))]).bind fun r10 => (asBool (r10[0]?)).bind fun c11 => 
      (bif (!c11) then some [.bool false]
       else (evF En n 40 [.int .i64 n6, .int .i64 1, .int .i64 1000]).bind fun r12 => (asBool (r12[0]?)).bind fun c13 => 
        (bif (!c13) then some [.bool false]
         else (evF En n 40 [.int .i64 n7, .int .i64 x3, .int .i64 x4]).bind fun r14 => (asBool (r14[0]?)).bind fun c15 => 
          (bif (!c15) then some [.bool false]
           else result_Orders.l4 n [] m [.int .i64 x0, .int .i64 x1, .list 3 l2, .int .i64 x3, .int .i64 x4, .list 7 l5, .list 8 l6, .list 7 l7, .int .i64 x8, .int .i64 (Go.IntKind.wrap .i64 (x9 + 1))]))))
   else result_Orders.l11 n [] n [.int .i64 x0, .int .i64 x1, .list 3 l2, .int .i64 x3, .int .i64 x4, .list 7 l5, .list 8 l6, .raw (Go.Value.func (Go.Fn.func 98) #[] #[]), .list 8 l6, .int .i64 (l6.length : Int), .int .i64 0]) := by kernel_rfl
theorem result_Orders.l11_eq (n m : Nat) (x0 : Int) (x1 : Int) (l2 : List FV) (x3 : Int) (x4 : Int) (l5 : List FV) (l6 : List FV)  (l8 : List FV) (x9 : Int) (x10 : Int) : result_Orders.l11 n [] (m + 1) [.int .i64 x0, .int .i64 x1, .list 3 l2, .int .i64 x3, .int .i64 x4, .list 7 l5, .list 8 l6, .raw (Go.Value.func (Go.Fn.func 98) #[] #[]), .list 8 l8, .int .i64 x9, .int .i64 x10] = 
  (bif (decide (x10 < x9)) then (ix x10 l8.length).bind fun i0 => (asStr (at' l8 i0 0)).bind fun u1 => (asInt .i64 (at' l8 i0 1)).bind fun n2 => (asInt .i64 (at' l8 i0 2)).bind fun n3 => (asBool (at' l8 i0 3)).bind fun c4 => (asInt .i64 (at' l8 i0 4)).bind fun n5 => (asLst 1 (at' l8 i0 5)).bind fun v6 => (asInt .i64 (at' l8 i0 6)).bind fun n7 => (asInt .i64 (at' l8 i0 7)).bind fun n8 => (evF En n 40 [.int .i64 n3, .int .i64 0, .int .i64 (Go.IntKind.wrap .i64 (x0 - 1))]).bind fun r9 => (asBool (r9[0]?)).bind fun c10 => 
    (bif (!c10) then some [.bool false]
     else (evF En n 40 [.int .i64 n5, .int .i64 x3, .int .i64 x4]).bind fun r11 => (asBool (r11[0]?)).bind fun c12 => 
      (bif (!c12) then some [.bool false]
       else 
        (bif ((v6.length : Int) != x1) then some [.bool false]
         else (evF En n 99 [.list 1 v6, .raw (Go.Value.func (Go.Fn.func 98) #[] #[])]).bind fun r13 => (asBool (r13[0]?)).bind fun c14 => 
          (bif c14 then some [.bool false]
           else (evF En n 100 [.list 1 v6]).bind fun r15 => (asInt .i64 (r15[0]?)).bind fun n16 => 
            (bif (n16 == 0) then some [.bool false]
             else result_Orders.l11 n [] m [.int .i64 x0, .int .i64 x1, .list 3 l2, .int .i64 x3, .int .i64 x4, .list 7 l5, .list 8 l6, .raw (Go.Value.func (Go.Fn.func 98) #[] #[]), .list 8 l8, .int .i64 x9, .int .i64 (Go.IntKind.wrap .i64 (x10 + 1))])))))
   else (evF En n 101 [.list 7 l5, .raw (Go.Value.func (Go.Fn.func 102) #[] #[])]).bind fun r17 => (asBool (r17[0]?)).bind fun c18 => 
    (bif (!c18) then some [.bool false]
     else (evF En n 103 [.list 8 l6, .raw (Go.Value.func (Go.Fn.func 104) #[] #[])]).bind fun r19 => (asBool (r19[0]?)).bind fun c20 => 
      (bif (!c20) then some [.bool false]
       else result_Orders.l19 n [] n [.list 8 l6, .int .i64 (l6.length : Int), .int .i64 0]))) := by kernel_rfl
theorem result_Orders.l19_eq (n m : Nat) (l0 : List FV) (x1 : Int) (x2 : Int) : result_Orders.l19 n [] (m + 1) [.list 8 l0, .int .i64 x1, .int .i64 x2] = 
  (bif (decide (x2 < x1)) then (evF En n 105 [.list 8 l0, .int .i64 x2]).bind fun r0 => (asBool (r0[0]?)).bind fun c1 => 
    (bif (!c1) then some [.bool false]
     else result_Orders.l19 n [] m [.list 8 l0, .int .i64 x1, .int .i64 (Go.IntKind.wrap .i64 (x2 + 1))])
   else some [.bool true]) := by kernel_rfl
theorem result_Orders_eq (n : Nat) (x0 : Int) (x1 : Int) (l2 : List FV) (x3 : Int) (x4 : Int) (l5 : List FV) (l6 : List FV) : evF En (n + 1) 58 [.int .i64 x0, .int .i64 x1, .list 3 l2, .int .i64 x3, .int .i64 x4, .list 7 l5, .list 8 l6] = (evF En n 97 [.int .i64 x0, .int .i64 x1, .list 3 l2, .int .i64 x3, .int .i64 x4]).bind fun r0 => (asInt .i64 (r0[0]?)).bind fun n1 => 
  (bif (n1 != 0) then some [.bool false]
   else 
    (bif (decide ((l5.length : Int) > 32)) then some [.bool false]
     else 
      (bif (decide ((l6.length : Int) > 12)) then some [.bool false]
       else result_Orders.l4 n [] n [.int .i64 x0, .int .i64 x1, .list 3 l2, .int .i64 x3, .int .i64 x4, .list 7 l5, .list 8 l6, .list 7 l5, .int .i64 (l5.length : Int), .int .i64 0]))) := by kernel_rfl
noncomputable def price_drawn.l5 (n : Nat) (ms : List Nat) (m : Nat) (L : List FV) : Res := Lp En n 59 [1, 1, 1, 1, 0, 1, 0] ms m L
theorem price_drawn.l5_eq (n m : Nat) (x0 : Int) (x1 : Int) (l2 : List FV) (x3 : Int) (x4 : Int) (l5 : List FV) (x6 : Int) (x7 : Int) : price_drawn.l5 n [] (m + 1) [.int .i64 x0, .int .i64 x1, .list 4 l2, .int .i64 x3, .int .i64 x4, .list 7 l5, .int .i64 x6, .int .i64 x7] = 
  (bif (decide (x7 < x6)) then (ix x7 l5.length).bind fun i0 => (asStr (at' l5 i0 0)).bind fun u1 => (asInt .i64 (at' l5 i0 1)).bind fun n2 => (asInt .i64 (at' l5 i0 2)).bind fun n3 => (asInt .i64 (at' l5 i0 3)).bind fun n4 => (asBool (at' l5 i0 4)).bind fun c5 => (asInt .i64 (at' l5 i0 5)).bind fun n6 => (asInt .i64 (at' l5 i0 6)).bind fun n7 => 
    (bif (n4 != x3) then price_drawn.l5 n [] m [.int .i64 x0, .int .i64 x1, .list 4 l2, .int .i64 x3, .int .i64 x4, .list 7 l5, .int .i64 x6, .int .i64 (Go.IntKind.wrap .i64 (x7 + 1))]
     else 
      (bif (n3 != x4) then price_drawn.l5 n [] m [.int .i64 x0, .int .i64 x1, .list 4 l2, .int .i64 x3, .int .i64 x4, .list 7 l5, .int .i64 x6, .int .i64 (Go.IntKind.wrap .i64 (x7 + 1))]
       else (ix x7 l2.length).bind fun i8 => (asLst 1 (at' l2 i8 0)).bind fun v9 => (asBool (at' l2 i8 1)).bind fun c10 => (asLst 1 (at' l2 i8 2)).bind fun v11 => (asBool (at' l2 i8 3)).bind fun c12 => (evF En n 95 [.list 1 v9, .bool c10, .list 1 v11, .bool c12]).bind fun r13 => (asInt .i64 (r13[0]?)).bind fun n14 => (ix x7 l2.length).bind fun i15 => (asLst 1 (at' l2 i15 0)).bind fun v16 => (asBool (at' l2 i15 1)).bind fun c17 => (asLst 1 (at' l2 i15 2)).bind fun v18 => (asBool (at' l2 i15 3)).bind fun c19 => (evF En n 45 [.int .i64 n6]).bind fun r20 => (asLst 1 (r20[0]?)).bind fun v21 => (asBool (r20[1]?)).bind fun c22 => (asLst 1 (r20[2]?)).bind fun v23 => (asBool (r20[3]?)).bind fun c24 => (evF En n 96 [.list 1 v16, .bool c17, .list 1 v18, .bool c19, .list 1 v21, .bool c22, .list 1 v23, .bool c24]).bind fun r25 => (asInt .i64 (r25[0]?)).bind fun n26 => 
        (bif c5 then (evF En n 106 [.bool (decide (n26 < 0)), .int .i64 n7, .int .i64 x0]).bind fun r27 => (asInt .i64 (r27[0]?)).bind fun n28 => (evF En n 107 [.bool (decide (n14 > 0)), .int .i64 n7, .int .i64 x1]).bind fun r29 => (asInt .i64 (r29[0]?)).bind fun n30 => price_drawn.l5 n [] m [.int .i64 n28, .int .i64 n30, .list 4 l2, .int .i64 x3, .int .i64 x4, .list 7 l5, .int .i64 x6, .int .i64 (Go.IntKind.wrap .i64 (x7 + 1))]
         else (evF En n 106 [.bool (decide (n14 > 0)), .int .i64 n7, .int .i64 x0]).bind fun r31 => (asInt .i64 (r31[0]?)).bind fun n32 => (evF En n 107 [.bool (decide (n26 < 0)), .int .i64 n7, .int .i64 x1]).bind fun r33 => (asInt .i64 (r33[0]?)).bind fun n34 => price_drawn.l5 n [] m [.int .i64 n32, .int .i64 n34, .list 4 l2, .int .i64 x3, .int .i64 x4, .list 7 l5, .int .i64 x6, .int .i64 (Go.IntKind.wrap .i64 (x7 + 1))])))
   else some [.int .i64 x0, .int .i64 x1]) := by kernel_rfl
theorem price_drawn_eq (n : Nat) (x0 : Int) (x1 : Int) (l2 : List FV) (x3 : Int) (x4 : Int) (l5 : List FV) (l6 : List FV) (x7 : Int) (x8 : Int) : evF En (n + 1) 59 [.int .i64 x0, .int .i64 x1, .list 3 l2, .int .i64 x3, .int .i64 x4, .list 7 l5, .list 4 l6, .int .i64 x7, .int .i64 x8] = price_drawn.l5 n [] n [.int .i64 x3, .int .i64 x4, .list 4 l6, .int .i64 x7, .int .i64 x8, .list 7 l5, .int .i64 (l5.length : Int), .int .i64 0] := by kernel_rfl
noncomputable def noonbellref17_Taken.l5 (n : Nat) (ms : List Nat) (m : Nat) (L : List FV) : Res := Lp En n 60 [1, 1, 1, 0, 1, 0] ms m L
theorem noonbellref17_Taken.l5_eq (n m : Nat) (l0 : List FV) (l1 : List FV) (x2 : Int) : noonbellref17_Taken.l5 n [] (m + 1) [.list 7 l0, .list 4 l1, .int .i64 x2] = 
  (bif (decide (x2 < (l1.length : Int))) then (ix x2 l1.length).bind fun i0 => (asBool (at' l1 i0 0)).bind fun c1 => (asLst 1 (at' l1 i0 1)).bind fun v2 => (asBool (at' l1 i0 2)).bind fun c3 => (asLst 1 (at' l1 i0 3)).bind fun v4 => (evF En n 62 [.bool c1, .list 1 v2, .bool c3, .list 1 v4]).bind fun r5 => (asInt .i64 (r5[0]?)).bind fun n6 => 
    (bif (decide (n6 < 0)) then some [.bool false]
     else (ix x2 l1.length).bind fun i7 => (asBool (at' l1 i7 0)).bind fun c8 => (asLst 1 (at' l1 i7 1)).bind fun v9 => (asBool (at' l1 i7 2)).bind fun c10 => (asLst 1 (at' l1 i7 3)).bind fun v11 => (ix x2 l0.length).bind fun i12 => (asInt .i64 (at' l0 i12 5)).bind fun n13 => (evF En n 14 [.int .i64 n13]).bind fun r14 => (asBool (r14[0]?)).bind fun c15 => (asLst 1 (r14[1]?)).bind fun v16 => (asBool (r14[2]?)).bind fun c17 => (asLst 1 (r14[3]?)).bind fun v18 => (evF En n 63 [.bool c8, .list 1 v9, .bool c10, .list 1 v11, .bool c15, .list 1 v16, .bool c17, .list 1 v18]).bind fun r19 => (asInt .i64 (r19[0]?)).bind fun n20 => 
      (bif (decide (n20 > 0)) then some [.bool false]
       else noonbellref17_Taken.l5 n [] m [.list 7 l0, .list 4 l1, .int .i64 (Go.IntKind.wrap .i64 (x2 + 1))]))
   else some [.bool true]) := by kernel_rfl
theorem noonbellref17_Taken_eq (n : Nat) (x0 : Int) (x1 : Int) (l2 : List FV) (x3 : Int) (x4 : Int) (l5 : List FV) (l6 : List FV) (l7 : List FV) : evF En (n + 1) 60 [.int .i64 x0, .int .i64 x1, .list 3 l2, .int .i64 x3, .int .i64 x4, .list 7 l5, .list 8 l6, .list 1 l7] = (evF En n 61 [.list 1 l7]).bind fun r0 => (asLst 4 (r0[0]?)).bind fun v1 => (asInt .i64 (r0[1]?)).bind fun n2 => (evF En n 108 [.int .i64 x0, .int .i64 x1, .list 3 l2, .int .i64 x3, .int .i64 x4, .list 7 l5, .list 8 l6]).bind fun r3 => (asBool (r3[0]?)).bind fun c4 => 
  (bif (!c4) then some [.bool false]
   else 
    (bif (n2 != 0) then some [.bool false]
     else 
      (bif ((v1.length : Int) != (l5.length : Int)) then some [.bool false]
       else noonbellref17_Taken.l5 n [] n [.list 7 l5, .list 4 v1, .int .i64 0]))) := by kernel_rfl
noncomputable def noonbellref11_Numbers.l3 (n : Nat) (ms : List Nat) (m : Nat) (L : List FV) : Res := Lp En n 61 [1, 1, 0, 1, 0] ms m L
theorem noonbellref11_Numbers.l3_eq (n m : Nat) (l0 : List FV) (l1 : List FV) (x2 : Int) : noonbellref11_Numbers.l3 n [] (m + 1) [.list 1 l0, .list 4 l1, .int .i64 x2] = 
  (bif (decide (x2 < (l0.length : Int))) then (ix x2 l0.length).bind fun i0 => (asStr (at' l0 i0 0)).bind fun u1 => (evF En n 49 [.str u1]).bind fun r2 => (asBool (r2[0]?)).bind fun c3 => (asLst 1 (r2[1]?)).bind fun v4 => (asBool (r2[2]?)).bind fun c5 => (asLst 1 (r2[3]?)).bind fun v6 => (asInt .i64 (r2[4]?)).bind fun n7 => 
    (bif (n7 != 0) then some [.list 4 [], .int .i64 10]
     else 
      (bif (Nat.ble (l1.length + (elemsOf 1 (.agg [.bool false, .list 1 [], .bool false, .list 1 []]) [(0, (.agg [.bool c3, .list 1 v4, .bool c5, .list 1 v6]))]).length) 2199023255552) then noonbellref11_Numbers.l3 n [] m [.list 1 l0, .list 4 (l1 ++ (elemsOf 1 (.agg [.bool false, .list 1 [], .bool false, .list 1 []]) [(0, (.agg [.bool c3, .list 1 v4, .bool c5, .list 1 v6]))])), .int .i64 (Go.IntKind.wrap .i64 (x2 + 1))]
       else none))
   else some [.list 4 l1, .int .i64 0]) := by kernel_rfl
theorem noonbellref11_Numbers_eq (n : Nat) (l0 : List FV) : evF En (n + 1) 61 [.list 1 l0] = noonbellref11_Numbers.l3 n [] n [.list 1 l0, .list 4 (elemsOf 0 (.agg [.bool false, .list 1 [], .bool false, .list 1 []]) []), .int .i64 0] := by kernel_rfl
theorem grid_Check_eq (n : Nat) (x0 : Int) (x1 : Int) (l2 : List FV) (x3 : Int) (x4 : Int) : evF En (n + 1) 97 [.int .i64 x0, .int .i64 x1, .list 3 l2, .int .i64 x3, .int .i64 x4] = (evF En n 134 [.int .i64 x0, .int .i64 1, .int .i64 3]).bind fun r0 => (asBool (r0[0]?)).bind fun c1 => 
  (bif (!c1) then some [.int .i64 140]
   else (evF En n 134 [.int .i64 x1, .int .i64 1, .int .i64 3]).bind fun r2 => (asBool (r2[0]?)).bind fun c3 => 
    (bif (!c3) then some [.int .i64 140]
     else 
      (bif (decide ((l2.length : Int) > 3)) then some [.int .i64 140]
       else (evF En n 135 [.list 3 l2, .int .i64 x0, .int .i64 x1, .list 3 l2, .int .i64 x3, .int .i64 x4]).bind fun r4 => (asInt .i64 (r4[0]?)).bind fun n5 => (asInt .i64 (r4[1]?)).bind fun n6 => (asLst 3 (r4[2]?)).bind fun v7 => (asInt .i64 (r4[3]?)).bind fun n8 => (asInt .i64 (r4[4]?)).bind fun n9 => (asBool (r4[5]?)).bind fun c10 => 
        (bif c10 then some [.int .i64 140]
         else (evF En n 134 [.int .i64 n8, .int .i64 (-100000), .int .i64 n9]).bind fun r11 => (asBool (r11[0]?)).bind fun c12 => 
          (bif (!c12) then some [.int .i64 140]
           else 
            (bif (decide (n9 > 100000)) then some [.int .i64 140]
             else some [.int .i64 0])))))) := by kernel_rfl
theorem result_Orders_1_eq (n : Nat) (x0 : Int) : evF En (n + 1) 98 [.int .i64 x0] = (evF En n 40 [.int .i64 x0, .int .i64 0, .int .i64 1000]).bind fun r0 => (asBool (r0[0]?)).bind fun c1 => some [.bool (!c1)] := by kernel_rfl
theorem slices_ContainsFunc_int_int_eq (n : Nat) (l0 : List FV)  : evF En (n + 1) 99 [.list 1 l0, .raw (Go.Value.func (Go.Fn.func 98) #[] #[])] = (evF En n 136 [.list 1 l0, .raw (Go.Value.func (Go.Fn.func 98) #[] #[])]).bind fun r0 => (asInt .i64 (r0[0]?)).bind fun n1 => some [.bool (decide (n1 ≥ 0))] := by kernel_rfl
noncomputable def slices_Max_int_int.l5 (n : Nat) (ms : List Nat) (m : Nat) (L : List FV) : Res := Lp En n 100 [1, 1, 1, 0, 1, 0] ms m L
theorem slices_Max_int_int.l5_eq (n m : Nat) (l0 : List FV) (x1 : Int) (x2 : Int) : slices_Max_int_int.l5 n [] (m + 1) [.list 1 l0, .int .i64 x1, .int .i64 x2] = 
  (bif (decide (x2 < (l0.length : Int))) then (ix x2 l0.length).bind fun i0 => (asInt .i64 (at' l0 i0 0)).bind fun n1 => slices_Max_int_int.l5 n [] m [.list 1 l0, .int .i64 (if x1 < n1 then n1 else x1), .int .i64 (Go.IntKind.wrap .i64 (x2 + 1))]
   else some [.int .i64 x1]) := by kernel_rfl
theorem slices_Max_int_int_eq (n : Nat) (l0 : List FV) : evF En (n + 1) 100 [.list 1 l0] = 
  (bif (decide ((l0.length : Int) < 1)) then none
   else (ix 0 l0.length).bind fun i0 => (asInt .i64 (at' l0 i0 0)).bind fun n1 => slices_Max_int_int.l5 n [] n [.list 1 l0, .int .i64 n1, .int .i64 1]) := by kernel_rfl
noncomputable def api_Step.l2 (n : Nat) (ms : List Nat) (m : Nat) (L : List FV) : Res := Lp En n 101 [1, 0, 1, 0] ms m L
theorem api_Step.l2_eq (n m : Nat) (l0 : List FV)  (x2 : Int) : api_Step.l2 n [] (m + 1) [.list 7 l0, .raw (Go.Value.func (Go.Fn.func 102) #[] #[]), .int .i64 x2] = 
  (bif (decide (x2 < (l0.length : Int))) then (ix (Go.IntKind.wrap .i64 (x2 - 1)) l0.length).bind fun i0 => (asStr (at' l0 i0 0)).bind fun u1 => (asInt .i64 (at' l0 i0 1)).bind fun n2 => (asInt .i64 (at' l0 i0 2)).bind fun n3 => (asInt .i64 (at' l0 i0 3)).bind fun n4 => (asBool (at' l0 i0 4)).bind fun c5 => (asInt .i64 (at' l0 i0 5)).bind fun n6 => (asInt .i64 (at' l0 i0 6)).bind fun n7 => (evF En n 102 [.str u1, .int .i64 n2, .int .i64 n3, .int .i64 n4, .bool c5, .int .i64 n6, .int .i64 n7]).bind fun r8 => (asStr (r8[0]?)).bind fun u9 => (asInt .i64 (r8[1]?)).bind fun n10 => (ix x2 l0.length).bind fun i11 => (asStr (at' l0 i11 0)).bind fun u12 => (asInt .i64 (at' l0 i11 1)).bind fun n13 => (asInt .i64 (at' l0 i11 2)).bind fun n14 => (asInt .i64 (at' l0 i11 3)).bind fun n15 => (asBool (at' l0 i11 4)).bind fun c16 => (asInt .i64 (at' l0 i11 5)).bind fun n17 => (asInt .i64 (at' l0 i11 6)).bind fun n18 => (evF En n 102 [.str u12, .int .i64 n13, .int .i64 n14, .int .i64 n15, .bool c16, .int .i64 n17, .int .i64 n18]).bind fun r19 => (asStr (r19[0]?)).bind fun u20 => (asInt .i64 (r19[1]?)).bind fun n21 => (evF En n 138 [.str u9, .str u20]).bind fun r22 => (asInt .i64 (r22[0]?)).bind fun n23 => (evF En n 139 [.int .i64 n10, .int .i64 n21]).bind fun r24 => (asInt .i64 (r24[0]?)).bind fun n25 => (evF En n 137 [.list 1 (elemsOf 2 (.int .i64 0) [(0, (.int .i64 n23)), (1, (.int .i64 n25))])]).bind fun r26 => (asInt .i64 (r26[0]?)).bind fun n27 => 
    (bif (decide (n27 ≥ 0)) then some [.bool false]
     else api_Step.l2 n [] m [.list 7 l0, .raw (Go.Value.func (Go.Fn.func 102) #[] #[]), .int .i64 (Go.IntKind.wrap .i64 (x2 + 1))])
   else some [.bool true]) := by kernel_rfl
theorem api_Step_eq (n : Nat) (l0 : List FV)  : evF En (n + 1) 101 [.list 7 l0, .raw (Go.Value.func (Go.Fn.func 102) #[] #[])] = api_Step.l2 n [] n [.list 7 l0, .raw (Go.Value.func (Go.Fn.func 102) #[] #[]), .int .i64 1] := by kernel_rfl
theorem result_Orders_2_eq (n : Nat) (s0 : ByteArray) (x1 : Int) (x2 : Int) (x3 : Int) (b4 : Bool) (x5 : Int) (x6 : Int) : evF En (n + 1) 102 [.str s0, .int .i64 x1, .int .i64 x2, .int .i64 x3, .bool b4, .int .i64 x5, .int .i64 x6] = some [.str s0, .int .i64 x1] := by kernel_rfl
noncomputable def api_Block_103.l2 (n : Nat) (ms : List Nat) (m : Nat) (L : List FV) : Res := Lp En n 103 [1, 0, 1, 0] ms m L
theorem api_Block_103.l2_eq (n m : Nat) (l0 : List FV)  (x2 : Int) : api_Block_103.l2 n [] (m + 1) [.list 8 l0, .raw (Go.Value.func (Go.Fn.func 104) #[] #[]), .int .i64 x2] = 
  (bif (decide (x2 < (l0.length : Int))) then (ix (Go.IntKind.wrap .i64 (x2 - 1)) l0.length).bind fun i0 => (asStr (at' l0 i0 0)).bind fun u1 => (asInt .i64 (at' l0 i0 1)).bind fun n2 => (asInt .i64 (at' l0 i0 2)).bind fun n3 => (asBool (at' l0 i0 3)).bind fun c4 => (asInt .i64 (at' l0 i0 4)).bind fun n5 => (asLst 1 (at' l0 i0 5)).bind fun v6 => (asInt .i64 (at' l0 i0 6)).bind fun n7 => (asInt .i64 (at' l0 i0 7)).bind fun n8 => (evF En n 104 [.str u1, .int .i64 n2, .int .i64 n3, .bool c4, .int .i64 n5, .list 1 v6, .int .i64 n7, .int .i64 n8]).bind fun r9 => (asStr (r9[0]?)).bind fun u10 => (asInt .i64 (r9[1]?)).bind fun n11 => (ix x2 l0.length).bind fun i12 => (asStr (at' l0 i12 0)).bind fun u13 => (asInt .i64 (at' l0 i12 1)).bind fun n14 => (asInt .i64 (at' l0 i12 2)).bind fun n15 => (asBool (at' l0 i12 3)).bind fun c16 => (asInt .i64 (at' l0 i12 4)).bind fun n17 => (asLst 1 (at' l0 i12 5)).bind fun v18 => (asInt .i64 (at' l0 i12 6)).bind fun n19 => (asInt .i64 (at' l0 i12 7)).bind fun n20 => (evF En n 104 [.str u13, .int .i64 n14, .int .i64 n15, .bool c16, .int .i64 n17, .list 1 v18, .int .i64 n19, .int .i64 n20]).bind fun r21 => (asStr (r21[0]?)).bind fun u22 => (asInt .i64 (r21[1]?)).bind fun n23 => (evF En n 138 [.str u10, .str u22]).bind fun r24 => (asInt .i64 (r24[0]?)).bind fun n25 => (evF En n 139 [.int .i64 n11, .int .i64 n23]).bind fun r26 => (asInt .i64 (r26[0]?)).bind fun n27 => (evF En n 137 [.list 1 (elemsOf 2 (.int .i64 0) [(0, (.int .i64 n25)), (1, (.int .i64 n27))])]).bind fun r28 => (asInt .i64 (r28[0]?)).bind fun n29 => 
    (bif (decide (n29 ≥ 0)) then some [.bool false]
     else api_Block_103.l2 n [] m [.list 8 l0, .raw (Go.Value.func (Go.Fn.func 104) #[] #[]), .int .i64 (Go.IntKind.wrap .i64 (x2 + 1))])
   else some [.bool true]) := by kernel_rfl
theorem api_Block_103_eq (n : Nat) (l0 : List FV)  : evF En (n + 1) 103 [.list 8 l0, .raw (Go.Value.func (Go.Fn.func 104) #[] #[])] = api_Block_103.l2 n [] n [.list 8 l0, .raw (Go.Value.func (Go.Fn.func 104) #[] #[]), .int .i64 1] := by kernel_rfl
theorem result_Orders_3_eq (n : Nat) (s0 : ByteArray) (x1 : Int) (x2 : Int) (b3 : Bool) (x4 : Int) (l5 : List FV) (x6 : Int) (x7 : Int) : evF En (n + 1) 104 [.str s0, .int .i64 x1, .int .i64 x2, .bool b3, .int .i64 x4, .list 1 l5, .int .i64 x6, .int .i64 x7] = some [.str s0, .int .i64 x1] := by kernel_rfl
noncomputable def result_rooted.l2 (n : Nat) (ms : List Nat) (m : Nat) (L : List FV) : Res := Lp En n 105 [1, 0, 1, 0] ms m L
theorem result_rooted.l2_eq (n m : Nat) (l0 : List FV) (x1 : Int) (x2 : Int) (x3 : Int) : result_rooted.l2 n [] (m + 1) [.list 8 l0, .int .i64 x1, .int .i64 x2, .int .i64 x3] = 
  (bif (decide (x3 < x2)) then (ix x1 l0.length).bind fun i0 => (asInt .i64 (at' l0 i0 6)).bind fun n1 => 
    (bif (decide (n1 ≤ 0)) then some [.bool true]
     else (evF En n 140 [.list 8 l0, .int .i64 x1]).bind fun r2 => (asInt .i64 (r2[0]?)).bind fun n3 => 
      (bif (decide (n3 < 0)) then some [.bool false]
       else 
        (bif (n3 == x1) then some [.bool false]
         else result_rooted.l2 n [] m [.list 8 l0, .int .i64 n3, .int .i64 x2, .int .i64 (Go.IntKind.wrap .i64 (x3 + 1))])))
   else some [.bool false]) := by kernel_rfl
theorem result_rooted_eq (n : Nat) (l0 : List FV) (x1 : Int) : evF En (n + 1) 105 [.list 8 l0, .int .i64 x1] = result_rooted.l2 n [] n [.list 8 l0, .int .i64 x1, .int .i64 (Go.IntKind.wrap .i64 ((l0.length : Int) + 1)), .int .i64 0] := by kernel_rfl
theorem price_drawn_1_eq (n : Nat) (b0 : Bool) (x1 : Int) (x2 : Int) : evF En (n + 1) 106 [.bool b0, .int .i64 x1, .int .i64 x2] = 
  (bif b0 then some [.int .i64 (if x2 < x1 then x1 else x2)]
   else some [.int .i64 x2]) := by kernel_rfl
theorem price_drawn_2_eq (n : Nat) (b0 : Bool) (x1 : Int) (x2 : Int) : evF En (n + 1) 107 [.bool b0, .int .i64 x1, .int .i64 x2] = 
  (bif b0 then some [.int .i64 (if x1 < x2 then x1 else x2)]
   else some [.int .i64 x2]) := by kernel_rfl
noncomputable def noonbellref16_Orders.l4 (n : Nat) (ms : List Nat) (m : Nat) (L : List FV) : Res := Lp En n 108 [1, 1, 0, 1, 0] ms m L
noncomputable def noonbellref16_Orders.l12 (n : Nat) (ms : List Nat) (m : Nat) (L : List FV) : Res := Lp En n 108 [1, 1, 1, 0, 1, 0] ms m L
noncomputable def noonbellref16_Orders.l19 (n : Nat) (ms : List Nat) (m : Nat) (L : List FV) : Res := Lp En n 108 [1, 1, 1, 0, 1, 0, 0, 1, 0, 0, 1, 1, 1, 0, 1, 0] ms m L
theorem noonbellref16_Orders.l4_eq (n m : Nat) (x0 : Int) (x1 : Int) (l2 : List FV) (x3 : Int) (x4 : Int) (l5 : List FV) (l6 : List FV) (x7 : Int) : noonbellref16_Orders.l4 n [] (m + 1) [.int .i64 x0, .int .i64 x1, .list 3 l2, .int .i64 x3, .int .i64 x4, .list 7 l5, .list 8 l6, .int .i64 x7] = 
  (bif (decide (x7 < (l5.length : Int))) then (ix x7 l5.length).bind fun i0 => (asStr (at' l5 i0 0)).bind fun u1 => (asInt .i64 (at' l5 i0 1)).bind fun n2 => (asInt .i64 (at' l5 i0 2)).bind fun n3 => (asInt .i64 (at' l5 i0 3)).bind fun n4 => (asBool (at' l5 i0 4)).bind fun c5 => (asInt .i64 (at' l5 i0 5)).bind fun n6 => (asInt .i64 (at' l5 i0 6)).bind fun n7 => (evF En n 142 [.int .i64 n3, .int .i64 0, .int .i64 (Go.IntKind.wrap .i64 (x0 - 1))]).bind fun r8 => (asBool (r8[0]?)).bind fun c9 => 
    (bif (!c9) then some [.bool false]
     else (evF En n 142 [.int .i64 n4, .int .i64 0, .int .i64 (Go.IntKind.wrap .i64 (x1 - 1))]).bind fun r10 => (asBool (r10[0]?)).bind fun c11 => 
      (bif (!c11) then some [.bool false]
       else (evF En n 142 [.int .i64 n6, .int .i64 1, .int .i64 1000]).bind fun r12 => (asBool (r12[0]?)).bind fun c13 => 
        (bif (!c13) then some [.bool false]
         else (evF En n 142 [.int .i64 n7, .int .i64 x3, .int .i64 x4]).bind fun r14 => (asBool (r14[0]?)).bind fun c15 => 
          (bif (!c15) then some [.bool false]
           else 
            (bif (decide (x7 > 0)) then (ix (Go.IntKind.wrap .i64 (x7 - 1)) l5.length).bind fun i16 => (asStr (at' l5 i16 0)).bind fun u17 => 
              (bif (!((Go.Op.bytesLess u17.toList u1.toList) || (u17.toList == u1.toList))) then some [.bool false]
               else (ix (Go.IntKind.wrap .i64 (x7 - 1)) l5.length).bind fun i18 => (asStr (at' l5 i18 0)).bind fun u19 => 
                (bif (u19.toList == u1.toList) then (ix (Go.IntKind.wrap .i64 (x7 - 1)) l5.length).bind fun i20 => (asInt .i64 (at' l5 i20 1)).bind fun n21 => 
                  (bif (decide (n21 ≥ n2)) then some [.bool false]
                   else noonbellref16_Orders.l4 n [] m [.int .i64 x0, .int .i64 x1, .list 3 l2, .int .i64 x3, .int .i64 x4, .list 7 l5, .list 8 l6, .int .i64 (Go.IntKind.wrap .i64 (x7 + 1))])
                 else noonbellref16_Orders.l4 n [] m [.int .i64 x0, .int .i64 x1, .list 3 l2, .int .i64 x3, .int .i64 x4, .list 7 l5, .list 8 l6, .int .i64 (Go.IntKind.wrap .i64 (x7 + 1))]))
             else noonbellref16_Orders.l4 n [] m [.int .i64 x0, .int .i64 x1, .list 3 l2, .int .i64 x3, .int .i64 x4, .list 7 l5, .list 8 l6, .int .i64 (Go.IntKind.wrap .i64 (x7 + 1))])))))
   else noonbellref16_Orders.l12 n [] n [.int .i64 x0, .int .i64 x1, .list 3 l2, .int .i64 x3, .int .i64 x4, .list 8 l6, .int .i64 0]) := by kernel_rfl
theorem noonbellref16_Orders.l12_eq (n m : Nat) (x0 : Int) (x1 : Int) (l2 : List FV) (x3 : Int) (x4 : Int) (l5 : List FV) (x6 : Int) : noonbellref16_Orders.l12 n [] (m + 1) [.int .i64 x0, .int .i64 x1, .list 3 l2, .int .i64 x3, .int .i64 x4, .list 8 l5, .int .i64 x6] = 
  (bif (decide (x6 < (l5.length : Int))) then (ix x6 l5.length).bind fun i0 => (asStr (at' l5 i0 0)).bind fun u1 => (asInt .i64 (at' l5 i0 1)).bind fun n2 => (asInt .i64 (at' l5 i0 2)).bind fun n3 => (asBool (at' l5 i0 3)).bind fun c4 => (asInt .i64 (at' l5 i0 4)).bind fun n5 => (asLst 1 (at' l5 i0 5)).bind fun v6 => (asInt .i64 (at' l5 i0 6)).bind fun n7 => (asInt .i64 (at' l5 i0 7)).bind fun n8 => (evF En n 143 [.int .i64 x0, .int .i64 x1, .list 3 l2, .int .i64 x3, .int .i64 x4, .str u1, .int .i64 n2, .int .i64 n3, .bool c4, .int .i64 n5, .list 1 v6, .int .i64 n7, .int .i64 n8]).bind fun r9 => (asBool (r9[0]?)).bind fun c10 => 
    (bif (!c10) then some [.bool false]
     else 
      (bif (decide (x6 > 0)) then (ix (Go.IntKind.wrap .i64 (x6 - 1)) l5.length).bind fun i11 => (asStr (at' l5 i11 0)).bind fun u12 => 
        (bif (!((Go.Op.bytesLess u12.toList u1.toList) || (u12.toList == u1.toList))) then some [.bool false]
         else (ix (Go.IntKind.wrap .i64 (x6 - 1)) l5.length).bind fun i13 => (asStr (at' l5 i13 0)).bind fun u14 => 
          (bif (u14.toList == u1.toList) then (ix (Go.IntKind.wrap .i64 (x6 - 1)) l5.length).bind fun i15 => (asInt .i64 (at' l5 i15 1)).bind fun n16 => 
            (bif (decide (n16 ≥ n2)) then some [.bool false]
             else noonbellref16_Orders.l19 n [m] n [.int .i64 x0, .int .i64 x1, .list 3 l2, .int .i64 x3, .int .i64 x4, .list 8 l5, .int .i64 x6, .int .i64 x6, .int .i64 0])
           else noonbellref16_Orders.l19 n [m] n [.int .i64 x0, .int .i64 x1, .list 3 l2, .int .i64 x3, .int .i64 x4, .list 8 l5, .int .i64 x6, .int .i64 x6, .int .i64 0]))
       else noonbellref16_Orders.l19 n [m] n [.int .i64 x0, .int .i64 x1, .list 3 l2, .int .i64 x3, .int .i64 x4, .list 8 l5, .int .i64 x6, .int .i64 x6, .int .i64 0]))
   else some [.bool true]) := by kernel_rfl
theorem noonbellref16_Orders.l19_eq (n m m0 : Nat) (x0 : Int) (x1 : Int) (l2 : List FV) (x3 : Int) (x4 : Int) (l5 : List FV) (x6 : Int) (x7 : Int) (x8 : Int) : noonbellref16_Orders.l19 n [m0] (m + 1) [.int .i64 x0, .int .i64 x1, .list 3 l2, .int .i64 x3, .int .i64 x4, .list 8 l5, .int .i64 x6, .int .i64 x7, .int .i64 x8] = 
  (bif (decide (x7 ≥ 0)) then 
    (bif (decide (x8 > (l5.length : Int))) then some [.bool false]
     else (evF En n 144 [.list 8 l5, .int .i64 x7]).bind fun r0 => (asInt .i64 (r0[0]?)).bind fun n1 => noonbellref16_Orders.l19 n [m0] m [.int .i64 x0, .int .i64 x1, .list 3 l2, .int .i64 x3, .int .i64 x4, .list 8 l5, .int .i64 x6, .int .i64 n1, .int .i64 (Go.IntKind.wrap .i64 (x8 + 1))])
   else 
    (bif (x7 == (-2)) then some [.bool false]
     else noonbellref16_Orders.l12 n [] m0 [.int .i64 x0, .int .i64 x1, .list 3 l2, .int .i64 x3, .int .i64 x4, .list 8 l5, .int .i64 (Go.IntKind.wrap .i64 (x6 + 1))])) := by kernel_rfl
theorem noonbellref16_Orders_eq (n : Nat) (x0 : Int) (x1 : Int) (l2 : List FV) (x3 : Int) (x4 : Int) (l5 : List FV) (l6 : List FV) : evF En (n + 1) 108 [.int .i64 x0, .int .i64 x1, .list 3 l2, .int .i64 x3, .int .i64 x4, .list 7 l5, .list 8 l6] = (evF En n 141 [.int .i64 x0, .int .i64 x1, .list 3 l2, .int .i64 x3, .int .i64 x4]).bind fun r0 => (asInt .i64 (r0[0]?)).bind fun n1 => 
  (bif (n1 != 0) then some [.bool false]
   else 
    (bif (decide ((l5.length : Int) > 32)) then some [.bool false]
     else 
      (bif (decide ((l6.length : Int) > 12)) then some [.bool false]
       else noonbellref16_Orders.l4 n [] n [.int .i64 x0, .int .i64 x1, .list 3 l2, .int .i64 x3, .int .i64 x4, .list 7 l5, .list 8 l6, .int .i64 0]))) := by kernel_rfl
theorem grid_Check_1_eq (n : Nat) (x0 : Int) (x1 : Int) (x2 : Int) (x3 : Int) (x4 : Int) (l5 : List FV) (x6 : Int) (x7 : Int) : evF En (n + 1) 133 [.int .i64 x0, .int .i64 x1, .int .i64 x2, .int .i64 x3, .int .i64 x4, .list 3 l5, .int .i64 x6, .int .i64 x7] = (evF En n 134 [.int .i64 x0, .int .i64 0, .int .i64 (Go.IntKind.wrap .i64 (x3 - 1))]).bind fun r0 => (asBool (r0[0]?)).bind fun c1 => 
  (bif (!c1) then some [.int .i64 x3, .int .i64 x4, .list 3 l5, .int .i64 x6, .int .i64 x7, .bool true]
   else (evF En n 134 [.int .i64 x1, .int .i64 0, .int .i64 (Go.IntKind.wrap .i64 (x3 - 1))]).bind fun r2 => (asBool (r2[0]?)).bind fun c3 => 
    (bif (!c3) then some [.int .i64 x3, .int .i64 x4, .list 3 l5, .int .i64 x6, .int .i64 x7, .bool true]
     else 
      (bif (x0 == x1) then some [.int .i64 x3, .int .i64 x4, .list 3 l5, .int .i64 x6, .int .i64 x7, .bool true]
       else (evF En n 134 [.int .i64 x2, .int .i64 0, .int .i64 1000]).bind fun r4 => (asBool (r4[0]?)).bind fun c5 => some [.int .i64 x3, .int .i64 x4, .list 3 l5, .int .i64 x6, .int .i64 x7, .bool (!c5)]))) := by kernel_rfl
theorem grid_fits_eq (n : Nat) (x0 : Int) (x1 : Int) (x2 : Int) : evF En (n + 1) 134 [.int .i64 x0, .int .i64 x1, .int .i64 x2] = 
  (bif (decide (x1 ≤ x0)) then some [.bool (decide (x0 ≤ x2))]
   else some [.bool false]) := by kernel_rfl
theorem api_Line_135_eq (n : Nat) (l0 : List FV) (x1 : Int) (x2 : Int) (l3 : List FV) (x4 : Int) (x5 : Int) : evF En (n + 1) 135 [.list 3 l0, .int .i64 x1, .int .i64 x2, .list 3 l3, .int .i64 x4, .int .i64 x5] = (evF En n 169 [.list 3 l0, .int .i64 x1, .int .i64 x2, .list 3 l3, .int .i64 x4, .int .i64 x5]).bind fun r0 => (asInt .i64 (r0[0]?)).bind fun n1 => (asInt .i64 (r0[1]?)).bind fun n2 => (asLst 3 (r0[2]?)).bind fun v3 => (asInt .i64 (r0[3]?)).bind fun n4 => (asInt .i64 (r0[4]?)).bind fun n5 => (asInt .i64 (r0[5]?)).bind fun n6 => some [.int .i64 n1, .int .i64 n2, .list 3 v3, .int .i64 n4, .int .i64 n5, .bool (decide (n6 ≥ 0))] := by kernel_rfl
noncomputable def slices_IndexFunc_int_int.l2 (n : Nat) (ms : List Nat) (m : Nat) (L : List FV) : Res := Lp En n 136 [1, 0, 1, 0] ms m L
theorem slices_IndexFunc_int_int.l2_eq (n m : Nat) (l0 : List FV)  (x2 : Int) (x3 : Int) : slices_IndexFunc_int_int.l2 n [] (m + 1) [.list 1 l0, .raw (Go.Value.func (Go.Fn.func 98) #[] #[]), .int .i64 x2, .int .i64 x3] = 
  (bif (decide (x3 < x2)) then (ix x3 l0.length).bind fun i0 => (asInt .i64 (at' l0 i0 0)).bind fun n1 => (evF En n 98 [.int .i64 n1]).bind fun r2 => (asBool (r2[0]?)).bind fun c3 => 
    (bif c3 then some [.int .i64 x3]
     else slices_IndexFunc_int_int.l2 n [] m [.list 1 l0, .raw (Go.Value.func (Go.Fn.func 98) #[] #[]), .int .i64 x2, .int .i64 (Go.IntKind.wrap .i64 (x3 + 1))])
   else some [.int .i64 (-1)]) := by kernel_rfl
theorem slices_IndexFunc_int_int_eq (n : Nat) (l0 : List FV)  : evF En (n + 1) 136 [.list 1 l0, .raw (Go.Value.func (Go.Fn.func 98) #[] #[])] = slices_IndexFunc_int_int.l2 n [] n [.list 1 l0, .raw (Go.Value.func (Go.Fn.func 98) #[] #[]), .int .i64 (l0.length : Int), .int .i64 0] := by kernel_rfl
noncomputable def cmp_Or_int.l3 (n : Nat) (ms : List Nat) (m : Nat) (L : List FV) : Res := Lp En n 137 [1, 1, 0, 1, 0] ms m L
theorem cmp_Or_int.l3_eq (n m : Nat) (x0 : Int) (l1 : List FV) (x2 : Int) (x3 : Int) : cmp_Or_int.l3 n [] (m + 1) [.int .i64 x0, .list 1 l1, .int .i64 x2, .int .i64 x3] = 
  (bif (decide (x3 < x2)) then (ix x3 l1.length).bind fun i0 => (asInt .i64 (at' l1 i0 0)).bind fun n1 => 
    (bif (n1 != x0) then some [.int .i64 n1]
     else cmp_Or_int.l3 n [] m [.int .i64 x0, .list 1 l1, .int .i64 x2, .int .i64 (Go.IntKind.wrap .i64 (x3 + 1))])
   else some [.int .i64 x0]) := by kernel_rfl
theorem cmp_Or_int_eq (n : Nat) (l0 : List FV) : evF En (n + 1) 137 [.list 1 l0] = cmp_Or_int.l3 n [] n [.int .i64 0, .list 1 l0, .int .i64 (l0.length : Int), .int .i64 0] := by kernel_rfl
theorem cmp_Compare_string_eq (n : Nat) (s0 : ByteArray) (s1 : ByteArray) : evF En (n + 1) 138 [.str s0, .str s1] = (evF En n 170 [.str s0]).bind fun r0 => (asBool (r0[0]?)).bind fun c1 => (evF En n 170 [.str s1]).bind fun r2 => (asBool (r2[0]?)).bind fun c3 => 
  (bif c1 then 
    (bif c3 then some [.int .i64 0]
     else some [.int .i64 (-1)])
   else 
    (bif c3 then some [.int .i64 1]
     else 
      (bif (Go.Op.bytesLess s0.toList s1.toList) then some [.int .i64 (-1)]
       else 
        (bif (!((Go.Op.bytesLess s0.toList s1.toList) || (s0.toList == s1.toList))) then some [.int .i64 1]
         else some [.int .i64 0])))) := by kernel_rfl
theorem cmp_Compare_int_eq (n : Nat) (x0 : Int) (x1 : Int) : evF En (n + 1) 139 [.int .i64 x0, .int .i64 x1] = (evF En n 171 [.int .i64 x0]).bind fun r0 => (asBool (r0[0]?)).bind fun c1 => (evF En n 171 [.int .i64 x1]).bind fun r2 => (asBool (r2[0]?)).bind fun c3 => 
  (bif c1 then 
    (bif c3 then some [.int .i64 0]
     else some [.int .i64 (-1)])
   else 
    (bif c3 then some [.int .i64 1]
     else 
      (bif (decide (x0 < x1)) then some [.int .i64 (-1)]
       else 
        (bif (decide (x0 > x1)) then some [.int .i64 1]
         else some [.int .i64 0])))) := by kernel_rfl
theorem result_parent_eq (n : Nat) (l0 : List FV) (x1 : Int) : evF En (n + 1) 140 [.list 8 l0, .int .i64 x1] = (evF En n 172 [.list 8 l0, .list 8 l0, .int .i64 x1]).bind fun r0 => (asLst 8 (r0[0]?)).bind fun v1 => (asInt .i64 (r0[1]?)).bind fun n2 => (asInt .i64 (r0[2]?)).bind fun n3 => some [.int .i64 n3] := by kernel_rfl
noncomputable def noonbellref14_Check.l4 (n : Nat) (ms : List Nat) (m : Nat) (L : List FV) : Res := Lp En n 141 [1, 1, 0, 1, 0] ms m L
theorem noonbellref14_Check.l4_eq (n m : Nat) (x0 : Int) (x1 : Int) (l2 : List FV) (x3 : Int) (x4 : Int) (x5 : Int) : noonbellref14_Check.l4 n [] (m + 1) [.int .i64 x0, .int .i64 x1, .list 3 l2, .int .i64 x3, .int .i64 x4, .int .i64 x5] = 
  (bif (decide (x5 < (l2.length : Int))) then (ix x5 l2.length).bind fun i0 => (asInt .i64 (at' l2 i0 0)).bind fun n1 => (asInt .i64 (at' l2 i0 1)).bind fun n2 => (asInt .i64 (at' l2 i0 2)).bind fun n3 => (evF En n 174 [.int .i64 n1, .int .i64 0, .int .i64 (Go.IntKind.wrap .i64 (x0 - 1))]).bind fun r4 => (asBool (r4[0]?)).bind fun c5 => 
    (bif (!c5) then some [.int .i64 140]
     else (evF En n 174 [.int .i64 n2, .int .i64 0, .int .i64 (Go.IntKind.wrap .i64 (x0 - 1))]).bind fun r6 => (asBool (r6[0]?)).bind fun c7 => 
      (bif (!c7) then some [.int .i64 140]
       else 
        (bif (n1 == n2) then some [.int .i64 140]
         else (evF En n 174 [.int .i64 n3, .int .i64 0, .int .i64 1000]).bind fun r8 => (asBool (r8[0]?)).bind fun c9 => 
          (bif (!c9) then some [.int .i64 140]
           else noonbellref14_Check.l4 n [] m [.int .i64 x0, .int .i64 x1, .list 3 l2, .int .i64 x3, .int .i64 x4, .int .i64 (Go.IntKind.wrap .i64 (x5 + 1))]))))
   else some [.int .i64 0]) := by kernel_rfl
theorem noonbellref14_Check_eq (n : Nat) (x0 : Int) (x1 : Int) (l2 : List FV) (x3 : Int) (x4 : Int) : evF En (n + 1) 141 [.int .i64 x0, .int .i64 x1, .list 3 l2, .int .i64 x3, .int .i64 x4] = (evF En n 174 [.int .i64 x0, .int .i64 1, .int .i64 3]).bind fun r0 => (asBool (r0[0]?)).bind fun c1 => 
  (bif (!c1) then some [.int .i64 140]
   else (evF En n 174 [.int .i64 x1, .int .i64 1, .int .i64 3]).bind fun r2 => (asBool (r2[0]?)).bind fun c3 => 
    (bif (!c3) then some [.int .i64 140]
     else 
      (bif (decide ((l2.length : Int) > 3)) then some [.int .i64 140]
       else 
        (bif (decide (x3 < (-100000))) then some [.int .i64 140]
         else 
          (bif (decide (x3 > x4)) then some [.int .i64 140]
           else 
            (bif (decide (x4 > 100000)) then some [.int .i64 140]
             else noonbellref14_Check.l4 n [] n [.int .i64 x0, .int .i64 x1, .list 3 l2, .int .i64 x3, .int .i64 x4, .int .i64 0])))))) := by kernel_rfl
theorem noonbellref16_within_eq (n : Nat) (x0 : Int) (x1 : Int) (x2 : Int) : evF En (n + 1) 142 [.int .i64 x0, .int .i64 x1, .int .i64 x2] = 
  (bif (decide (x0 ≥ x1)) then some [.bool (decide (x0 ≤ x2))]
   else some [.bool false]) := by kernel_rfl
noncomputable def noonbellref16_block.l5 (n : Nat) (ms : List Nat) (m : Nat) (L : List FV) : Res := Lp En n 143 [1, 1, 1, 0, 1, 0] ms m L
theorem noonbellref16_block.l5_eq (n m : Nat) (s0 : ByteArray) (x1 : Int) (x2 : Int) (b3 : Bool) (x4 : Int) (l5 : List FV) (x6 : Int) (x7 : Int) (b8 : Bool) (x9 : Int) : noonbellref16_block.l5 n [] (m + 1) [.str s0, .int .i64 x1, .int .i64 x2, .bool b3, .int .i64 x4, .list 1 l5, .int .i64 x6, .int .i64 x7, .bool b8, .int .i64 x9] = 
  (bif (decide (x9 < (l5.length : Int))) then (ix x9 l5.length).bind fun i0 => (asInt .i64 (at' l5 i0 0)).bind fun n1 => (evF En n 142 [.int .i64 n1, .int .i64 0, .int .i64 1000]).bind fun r2 => (asBool (r2[0]?)).bind fun c3 => 
    (bif (!c3) then some [.bool false]
     else 
      (bif b8 then noonbellref16_block.l5 n [] m [.str s0, .int .i64 x1, .int .i64 x2, .bool b3, .int .i64 x4, .list 1 l5, .int .i64 x6, .int .i64 x7, .bool true, .int .i64 (Go.IntKind.wrap .i64 (x9 + 1))]
       else (ix x9 l5.length).bind fun i4 => (asInt .i64 (at' l5 i4 0)).bind fun n5 => noonbellref16_block.l5 n [] m [.str s0, .int .i64 x1, .int .i64 x2, .bool b3, .int .i64 x4, .list 1 l5, .int .i64 x6, .int .i64 x7, .bool (decide (n5 > 0)), .int .i64 (Go.IntKind.wrap .i64 (x9 + 1))]))
   else some [.bool b8]) := by kernel_rfl
theorem noonbellref16_block_eq (n : Nat) (x0 : Int) (x1 : Int) (l2 : List FV) (x3 : Int) (x4 : Int) (s5 : ByteArray) (x6 : Int) (x7 : Int) (b8 : Bool) (x9 : Int) (l10 : List FV) (x11 : Int) (x12 : Int) : evF En (n + 1) 143 [.int .i64 x0, .int .i64 x1, .list 3 l2, .int .i64 x3, .int .i64 x4, .str s5, .int .i64 x6, .int .i64 x7, .bool b8, .int .i64 x9, .list 1 l10, .int .i64 x11, .int .i64 x12] = (evF En n 142 [.int .i64 x7, .int .i64 0, .int .i64 (Go.IntKind.wrap .i64 (x0 - 1))]).bind fun r0 => (asBool (r0[0]?)).bind fun c1 => 
  (bif (!c1) then some [.bool false]
   else (evF En n 142 [.int .i64 x9, .int .i64 x3, .int .i64 x4]).bind fun r2 => (asBool (r2[0]?)).bind fun c3 => 
    (bif (!c3) then some [.bool false]
     else 
      (bif ((l10.length : Int) != x1) then some [.bool false]
       else noonbellref16_block.l5 n [] n [.str s5, .int .i64 x6, .int .i64 x7, .bool b8, .int .i64 x9, .list 1 l10, .int .i64 x11, .int .i64 x12, .bool false, .int .i64 0]))) := by kernel_rfl
noncomputable def noonbellref16_parent.l4 (n : Nat) (ms : List Nat) (m : Nat) (L : List FV) : Res := Lp En n 144 [1, 1, 0, 1, 0] ms m L
theorem noonbellref16_parent.l4_eq (n m : Nat) (l0 : List FV) (x1 : Int) (x2 : Int) : noonbellref16_parent.l4 n [] (m + 1) [.list 8 l0, .int .i64 x1, .int .i64 x2] = 
  (bif (decide (x2 < (l0.length : Int))) then 
    (bif (x2 != x1) then (ix x2 l0.length).bind fun i0 => (asStr (at' l0 i0 0)).bind fun u1 => (ix x1 l0.length).bind fun i2 => (asStr (at' l0 i2 0)).bind fun u3 => 
      (bif (u1.toList == u3.toList) then (ix x2 l0.length).bind fun i4 => (asInt .i64 (at' l0 i4 1)).bind fun n5 => (ix x1 l0.length).bind fun i6 => (asInt .i64 (at' l0 i6 6)).bind fun n7 => 
        (bif (n5 == n7) then some [.int .i64 x2]
         else noonbellref16_parent.l4 n [] m [.list 8 l0, .int .i64 x1, .int .i64 (Go.IntKind.wrap .i64 (x2 + 1))])
       else noonbellref16_parent.l4 n [] m [.list 8 l0, .int .i64 x1, .int .i64 (Go.IntKind.wrap .i64 (x2 + 1))])
     else noonbellref16_parent.l4 n [] m [.list 8 l0, .int .i64 x1, .int .i64 (Go.IntKind.wrap .i64 (x2 + 1))])
   else some [.int .i64 (-2)]) := by kernel_rfl
theorem noonbellref16_parent_eq (n : Nat) (l0 : List FV) (x1 : Int) : evF En (n + 1) 144 [.list 8 l0, .int .i64 x1] = (ix x1 l0.length).bind fun i0 => (asInt .i64 (at' l0 i0 6)).bind fun n1 => 
  (bif (decide (n1 ≤ 0)) then some [.int .i64 (-1)]
   else noonbellref16_parent.l4 n [] n [.list 8 l0, .int .i64 x1, .int .i64 0]) := by kernel_rfl
noncomputable def api_Line_169.l2 (n : Nat) (ms : List Nat) (m : Nat) (L : List FV) : Res := Lp En n 169 [1, 0, 1, 0] ms m L
theorem api_Line_169.l2_eq (n m : Nat) (x0 : Int) (x1 : Int) (l2 : List FV) (x3 : Int) (x4 : Int) (l5 : List FV) (x6 : Int) (x7 : Int) : api_Line_169.l2 n [] (m + 1) [.int .i64 x0, .int .i64 x1, .list 3 l2, .int .i64 x3, .int .i64 x4, .list 3 l5, .int .i64 x6, .int .i64 x7] = 
  (bif (decide (x7 < x6)) then (ix x7 l5.length).bind fun i0 => (asInt .i64 (at' l5 i0 0)).bind fun n1 => (asInt .i64 (at' l5 i0 1)).bind fun n2 => (asInt .i64 (at' l5 i0 2)).bind fun n3 => (evF En n 133 [.int .i64 n1, .int .i64 n2, .int .i64 n3, .int .i64 x0, .int .i64 x1, .list 3 l2, .int .i64 x3, .int .i64 x4]).bind fun r4 => (asInt .i64 (r4[0]?)).bind fun n5 => (asInt .i64 (r4[1]?)).bind fun n6 => (asLst 3 (r4[2]?)).bind fun v7 => (asInt .i64 (r4[3]?)).bind fun n8 => (asInt .i64 (r4[4]?)).bind fun n9 => (asBool (r4[5]?)).bind fun c10 => 
    (bif c10 then some [.int .i64 n5, .int .i64 n6, .list 3 v7, .int .i64 n8, .int .i64 n9, .int .i64 x7]
     else api_Line_169.l2 n [] m [.int .i64 n5, .int .i64 n6, .list 3 v7, .int .i64 n8, .int .i64 n9, .list 3 l5, .int .i64 x6, .int .i64 (Go.IntKind.wrap .i64 (x7 + 1))])
   else some [.int .i64 x0, .int .i64 x1, .list 3 l2, .int .i64 x3, .int .i64 x4, .int .i64 (-1)]) := by kernel_rfl
theorem api_Line_169_eq (n : Nat) (l0 : List FV) (x1 : Int) (x2 : Int) (l3 : List FV) (x4 : Int) (x5 : Int) : evF En (n + 1) 169 [.list 3 l0, .int .i64 x1, .int .i64 x2, .list 3 l3, .int .i64 x4, .int .i64 x5] = api_Line_169.l2 n [] n [.int .i64 x1, .int .i64 x2, .list 3 l3, .int .i64 x4, .int .i64 x5, .list 3 l0, .int .i64 (l0.length : Int), .int .i64 0] := by kernel_rfl
theorem cmp_isNaN_string_eq (n : Nat) (s0 : ByteArray) : evF En (n + 1) 170 [.str s0] = some [.bool (!(s0.toList == s0.toList))] := by kernel_rfl
theorem cmp_isNaN_int_eq (n : Nat) (x0 : Int) : evF En (n + 1) 171 [.int .i64 x0] = some [.bool (x0 != x0)] := by kernel_rfl
noncomputable def api_Block_172.l2 (n : Nat) (ms : List Nat) (m : Nat) (L : List FV) : Res := Lp En n 172 [1, 0, 1, 0] ms m L
theorem api_Block_172.l2_eq (n m : Nat) (l0 : List FV) (x1 : Int) (l2 : List FV) (x3 : Int) (x4 : Int) : api_Block_172.l2 n [] (m + 1) [.list 8 l0, .int .i64 x1, .list 8 l2, .int .i64 x3, .int .i64 x4] = 
  (bif (decide (x4 < x3)) then (ix x4 l2.length).bind fun i0 => (asStr (at' l2 i0 0)).bind fun u1 => (asInt .i64 (at' l2 i0 1)).bind fun n2 => (asInt .i64 (at' l2 i0 2)).bind fun n3 => (asBool (at' l2 i0 3)).bind fun c4 => (asInt .i64 (at' l2 i0 4)).bind fun n5 => (asLst 1 (at' l2 i0 5)).bind fun v6 => (asInt .i64 (at' l2 i0 6)).bind fun n7 => (asInt .i64 (at' l2 i0 7)).bind fun n8 => (evF En n 173 [.str u1, .int .i64 n2, .int .i64 n3, .bool c4, .int .i64 n5, .list 1 v6, .int .i64 n7, .int .i64 n8, .list 8 l0, .int .i64 x1]).bind fun r9 => (asLst 8 (r9[0]?)).bind fun v10 => (asInt .i64 (r9[1]?)).bind fun n11 => (asBool (r9[2]?)).bind fun c12 => 
    (bif c12 then some [.list 8 v10, .int .i64 n11, .int .i64 x4]
     else api_Block_172.l2 n [] m [.list 8 v10, .int .i64 n11, .list 8 l2, .int .i64 x3, .int .i64 (Go.IntKind.wrap .i64 (x4 + 1))])
   else some [.list 8 l0, .int .i64 x1, .int .i64 (-1)]) := by kernel_rfl
theorem api_Block_172_eq (n : Nat) (l0 : List FV) (l1 : List FV) (x2 : Int) : evF En (n + 1) 172 [.list 8 l0, .list 8 l1, .int .i64 x2] = api_Block_172.l2 n [] n [.list 8 l1, .int .i64 x2, .list 8 l0, .int .i64 (l0.length : Int), .int .i64 0] := by kernel_rfl
theorem noonbellref14_within_eq (n : Nat) (x0 : Int) (x1 : Int) (x2 : Int) : evF En (n + 1) 174 [.int .i64 x0, .int .i64 x1, .int .i64 x2] = 
  (bif (decide (x0 ≥ x1)) then some [.bool (decide (x0 ≤ x2))]
   else some [.bool false]) := by kernel_rfl

end Rf
