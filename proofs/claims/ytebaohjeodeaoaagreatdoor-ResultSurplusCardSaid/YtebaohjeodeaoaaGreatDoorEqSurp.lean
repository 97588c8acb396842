/- Made by a program of this work: what each function comes to, one step of it; by the kernel. -/
import Derived.Test.YtebaohjeodeaoaaGreatDoorRfEnv
import Derived.KernelRfl
set_option linter.unusedVariables false
set_option maxRecDepth 100000
set_option maxHeartbeats 4000000
namespace Rf
open Go

noncomputable def noonbelllaw16_ResultSurplus.l3 (n : Nat) (ms : List Nat) (m : Nat) (L : List FV) : Res := Lp En n 3 [1, 1, 0, 1, 0] ms m L
noncomputable def noonbelllaw16_ResultSurplus.l11 (n : Nat) (ms : List Nat) (m : Nat) (L : List FV) : Res := Lp En n 3 [1, 1, 1, 1, 1, 0, 1, 0] ms m L
theorem noonbelllaw16_ResultSurplus.l3_eq (n m : Nat) (s0 : ByteArray) (x1 : Int) (x2 : Int) (b3 : Bool) (x4 : Int) (l5 : List FV) (x6 : Int) (x7 : Int) (l8 : List FV) (x9 : Int) (x10 : Int) : noonbelllaw16_ResultSurplus.l3 n [] (m + 1) [.str s0, .int .i64 x1, .int .i64 x2, .bool b3, .int .i64 x4, .list 1 l5, .int .i64 x6, .int .i64 x7, .list 1 l8, .int .i64 x9, .int .i64 x10] = 
  (bif (decide (x10 < (l8.length : Int))) then 
    (bif (decide (x9 ≤ 256)) then (ix x10 l8.length).bind fun i0 => (asLst 1 (at' l8 i0 0)).bind fun v1 => (evF En n 11 [.list 1 v1]).bind fun r2 => (asInt .i64 (r2[0]?)).bind fun n3 => noonbelllaw16_ResultSurplus.l3 n [] m [.str s0, .int .i64 x1, .int .i64 x2, .bool b3, .int .i64 x4, .list 1 l5, .int .i64 x6, .int .i64 x7, .list 1 l8, .int .i64 (Go.IntKind.wrap .i64 (x9 + (Go.IntKind.wrap .i64 (1 + n3)))), .int .i64 (Go.IntKind.wrap .i64 (x10 + 1))]
     else 
      (bif (decide (x9 > 256)) then some [.bool true]
       else 
        (bif (decide (x4 > 100000)) then some [.bool true]
         else 
          (bif (decide (x4 < (-100000))) then some [.bool true]
           else noonbelllaw16_ResultSurplus.l11 n [] n [.str s0, .int .i64 x1, .int .i64 x2, .bool b3, .int .i64 x4, .list 1 l5, .int .i64 x6, .int .i64 x7, .list 1 l8, .int .i64 0]))))
   else 
    (bif (decide (x9 > 256)) then some [.bool true]
     else 
      (bif (decide (x4 > 100000)) then some [.bool true]
       else 
        (bif (decide (x4 < (-100000))) then some [.bool true]
         else noonbelllaw16_ResultSurplus.l11 n [] n [.str s0, .int .i64 x1, .int .i64 x2, .bool b3, .int .i64 x4, .list 1 l5, .int .i64 x6, .int .i64 x7, .list 1 l8, .int .i64 0])))) := by kernel_rfl
theorem noonbelllaw16_ResultSurplus.l11_eq (n m : Nat) (s0 : ByteArray) (x1 : Int) (x2 : Int) (b3 : Bool) (x4 : Int) (l5 : List FV) (x6 : Int) (x7 : Int) (l8 : List FV) (x9 : Int) : noonbelllaw16_ResultSurplus.l11 n [] (m + 1) [.str s0, .int .i64 x1, .int .i64 x2, .bool b3, .int .i64 x4, .list 1 l5, .int .i64 x6, .int .i64 x7, .list 1 l8, .int .i64 x9] = 
  (bif (decide (x9 < (l5.length : Int))) then (ix x9 l5.length).bind fun i0 => (asInt .i64 (at' l5 i0 0)).bind fun n1 => 
    (bif (decide (n1 > 100000)) then some [.bool true]
     else (ix x9 l5.length).bind fun i2 => (asInt .i64 (at' l5 i2 0)).bind fun n3 => 
      (bif (decide (n3 < (-100000))) then some [.bool true]
       else noonbelllaw16_ResultSurplus.l11 n [] m [.str s0, .int .i64 x1, .int .i64 x2, .bool b3, .int .i64 x4, .list 1 l5, .int .i64 x6, .int .i64 x7, .list 1 l8, .int .i64 (Go.IntKind.wrap .i64 (x9 + 1))]))
   else (evF En n 12 [.str s0, .int .i64 x1, .int .i64 x2, .bool b3, .int .i64 x4, .list 1 l5, .int .i64 x6, .int .i64 x7, .list 1 l8]).bind fun r4 => (asStr (r4[0]?)).bind fun u5 => (asInt .i64 (r4[1]?)).bind fun n6 => (evF En n 13 [.str s0, .int .i64 x1, .int .i64 x2, .bool b3, .int .i64 x4, .list 1 l5, .int .i64 x6, .int .i64 x7, .list 1 l8]).bind fun r7 => (asStr (r7[0]?)).bind fun u8 => (asInt .i64 (r7[1]?)).bind fun n9 => (evF En n 12 [.str s0, .int .i64 x1, .int .i64 x2, .bool (!b3), .int .i64 x4, .list 1 l5, .int .i64 x6, .int .i64 x7, .list 1 l8]).bind fun r10 => (asStr (r10[0]?)).bind fun u11 => (asInt .i64 (r10[1]?)).bind fun n12 => 
    (bif (!(u5.toList == u8.toList)) then some [.bool false]
     else 
      (bif (n6 != n9) then some [.bool false]
       else 
        (bif (n6 != n12) then some [.bool false]
         else 
          (bif (n6 != 0) then some [.bool true]
           else 
            (bif (u11.toList == u5.toList) then 
              (bif (u5.toList == ({ data := #[48] } : ByteArray).toList) then some [.bool true]
               else 
                (bif (decide (((1 + u5.size) : Int) > 9223372036854775807)) then none
                 else 
                  (bif (u11.toList == ({ data := #[45] } ++ u5).toList) then some [.bool true]
                   else 
                    (bif (decide (((1 + u11.size) : Int) > 9223372036854775807)) then none
                     else some [.bool (u5.toList == ({ data := #[45] } ++ u11).toList)]))))
             else 
              (bif (decide (((1 + u5.size) : Int) > 9223372036854775807)) then none
               else 
                (bif (u11.toList == ({ data := #[45] } ++ u5).toList) then some [.bool true]
                 else 
                  (bif (decide (((1 + u11.size) : Int) > 9223372036854775807)) then none
                   else some [.bool (u5.toList == ({ data := #[45] } ++ u11).toList)]))))))))) := by kernel_rfl
theorem noonbelllaw16_ResultSurplus_eq (n : Nat) (s0 : ByteArray) (x1 : Int) (x2 : Int) (b3 : Bool) (x4 : Int) (l5 : List FV) (x6 : Int) (x7 : Int) (l8 : List FV) : evF En (n + 1) 3 [.str s0, .int .i64 x1, .int .i64 x2, .bool b3, .int .i64 x4, .list 1 l5, .int .i64 x6, .int .i64 x7, .list 1 l8] = noonbelllaw16_ResultSurplus.l3 n [] n [.str s0, .int .i64 x1, .int .i64 x2, .bool b3, .int .i64 x4, .list 1 l5, .int .i64 x6, .int .i64 x7, .list 1 l8, .int .i64 (l5.length : Int), .int .i64 0] := by kernel_rfl
noncomputable def noonbelllaw16_long.l3 (n : Nat) (ms : List Nat) (m : Nat) (L : List FV) : Res := Lp En n 11 [1, 1, 0, 1, 0] ms m L
theorem noonbelllaw16_long.l3_eq (n m : Nat) (l0 : List FV) (x1 : Int) (x2 : Int) : noonbelllaw16_long.l3 n [] (m + 1) [.list 1 l0, .int .i64 x1, .int .i64 x2] = 
  (bif (decide (x2 < (l0.length : Int))) then 
    (bif (decide (x1 ≤ 256)) then (ix x2 l0.length).bind fun i0 => (asStr (at' l0 i0 0)).bind fun u1 => noonbelllaw16_long.l3 n [] m [.list 1 l0, .int .i64 (Go.IntKind.wrap .i64 (x1 + (if 1048576 < (u1.size : Int) then 1048576 else (u1.size : Int)))), .int .i64 (Go.IntKind.wrap .i64 (x2 + 1))]
     else some [.int .i64 x1])
   else some [.int .i64 x1]) := by kernel_rfl
theorem noonbelllaw16_long_eq (n : Nat) (l0 : List FV) : evF En (n + 1) 11 [.list 1 l0] = noonbelllaw16_long.l3 n [] n [.list 1 l0, .int .i64 (if 1048576 < (l0.length : Int) then 1048576 else (l0.length : Int)), .int .i64 0] := by kernel_rfl
noncomputable def result_Surplus.l6 (n : Nat) (ms : List Nat) (m : Nat) (L : List FV) : Res := Lp En n 12 [1, 1, 1, 1, 0, 1, 0] ms m L
theorem result_Surplus.l6_eq (n m : Nat) (s0 : ByteArray) (x1 : Int) (x2 : Int) (b3 : Bool) (x4 : Int) (l5 : List FV) (x6 : Int) (x7 : Int) (l8 : List FV) (b9 : Bool) (l10 : List FV) (b11 : Bool) (l12 : List FV) (x13 : Int) (x14 : Int) : result_Surplus.l6 n [] (m + 1) [.str s0, .int .i64 x1, .int .i64 x2, .bool b3, .int .i64 x4, .list 1 l5, .int .i64 x6, .int .i64 x7, .list 1 l8, .bool b9, .list 1 l10, .bool b11, .list 1 l12, .int .i64 x13, .int .i64 x14] = 
  (bif (decide (x14 < x13)) then (ix x14 l12.length).bind fun i0 => (asLst 1 (at' l12 i0 0)).bind fun v1 => (ix x2 v1.length).bind fun i2 => (asStr (at' v1 i2 0)).bind fun u3 => (evF En n 42 [.str u3]).bind fun r4 => (asLst 1 (r4[0]?)).bind fun v5 => (asBool (r4[1]?)).bind fun c6 => (asLst 1 (r4[2]?)).bind fun v7 => (asBool (r4[3]?)).bind fun c8 => (asInt .i64 (r4[4]?)).bind fun n9 => 
    (bif (n9 != 0) then some [.str { data := #[] }, .int .i64 10]
     else (evF En n 45 [.int .i64 x4]).bind fun r10 => (asLst 1 (r10[0]?)).bind fun v11 => (asBool (r10[1]?)).bind fun c12 => (asLst 1 (r10[2]?)).bind fun v13 => (asBool (r10[3]?)).bind fun c14 => (evF En n 44 [.list 1 v5, .bool c6, .list 1 v7, .bool c8, .list 1 v11, .bool c12, .list 1 v13, .bool c14]).bind fun r15 => (asLst 1 (r15[0]?)).bind fun v16 => (asBool (r15[1]?)).bind fun c17 => (asLst 1 (r15[2]?)).bind fun v18 => (asBool (r15[3]?)).bind fun c19 => (ix x14 l5.length).bind fun i20 => (asInt .i64 (at' l5 i20 0)).bind fun n21 => (evF En n 45 [.int .i64 n21]).bind fun r22 => (asLst 1 (r22[0]?)).bind fun v23 => (asBool (r22[1]?)).bind fun c24 => (asLst 1 (r22[2]?)).bind fun v25 => (asBool (r22[3]?)).bind fun c26 => (evF En n 46 [.list 1 v16, .bool c17, .list 1 v18, .bool c19, .list 1 v23, .bool c24, .list 1 v25, .bool c26]).bind fun r27 => (asLst 1 (r27[0]?)).bind fun v28 => (asBool (r27[1]?)).bind fun c29 => (asLst 1 (r27[2]?)).bind fun v30 => (asBool (r27[3]?)).bind fun c31 => (evF En n 43 [.list 1 l8, .bool b9, .list 1 l10, .bool b11, .list 1 v28, .bool c29, .list 1 v30, .bool c31]).bind fun r32 => (asLst 1 (r32[0]?)).bind fun v33 => (asBool (r32[1]?)).bind fun c34 => (asLst 1 (r32[2]?)).bind fun v35 => (asBool (r32[3]?)).bind fun c36 => result_Surplus.l6 n [] m [.str s0, .int .i64 x1, .int .i64 x2, .bool b3, .int .i64 x4, .list 1 l5, .int .i64 x6, .int .i64 x7, .list 1 v33, .bool c34, .list 1 v35, .bool c36, .list 1 l12, .int .i64 x13, .int .i64 (Go.IntKind.wrap .i64 (x14 + 1))])
   else 
    (bif b3 then (evF En n 47 [.list 1 l8, .bool b9, .list 1 l10, .bool b11]).bind fun r37 => (asLst 1 (r37[0]?)).bind fun v38 => (asBool (r37[1]?)).bind fun c39 => (asLst 1 (r37[2]?)).bind fun v40 => (asBool (r37[3]?)).bind fun c41 => (evF En n 48 [.list 1 v38, .bool c39, .list 1 v40, .bool c41]).bind fun r42 => (asStr (r42[0]?)).bind fun u43 => some [.str u43, .int .i64 0]
     else (evF En n 48 [.list 1 l8, .bool b9, .list 1 l10, .bool b11]).bind fun r44 => (asStr (r44[0]?)).bind fun u45 => some [.str u45, .int .i64 0])) := by kernel_rfl
theorem result_Surplus_eq (n : Nat) (s0 : ByteArray) (x1 : Int) (x2 : Int) (b3 : Bool) (x4 : Int) (l5 : List FV) (x6 : Int) (x7 : Int) (l8 : List FV) : evF En (n + 1) 12 [.str s0, .int .i64 x1, .int .i64 x2, .bool b3, .int .i64 x4, .list 1 l5, .int .i64 x6, .int .i64 x7, .list 1 l8] = 
  (bif ((l8.length : Int) != (l5.length : Int)) then some [.str { data := #[] }, .int .i64 120]
   else (evF En n 41 [.list 1 l8, .str s0, .int .i64 x1, .int .i64 x2, .bool b3, .int .i64 x4, .list 1 l5, .int .i64 x6, .int .i64 x7]).bind fun r0 => (asStr (r0[0]?)).bind fun u1 => (asInt .i64 (r0[1]?)).bind fun n2 => (asInt .i64 (r0[2]?)).bind fun n3 => (asBool (r0[3]?)).bind fun c4 => (asInt .i64 (r0[4]?)).bind fun n5 => (asLst 1 (r0[5]?)).bind fun v6 => (asInt .i64 (r0[6]?)).bind fun n7 => (asInt .i64 (r0[7]?)).bind fun n8 => (asBool (r0[8]?)).bind fun c9 => 
    (bif c9 then some [.str { data := #[] }, .int .i64 120]
     else result_Surplus.l6 n [] n [.str u1, .int .i64 n2, .int .i64 n3, .bool c4, .int .i64 n5, .list 1 v6, .int .i64 n7, .int .i64 n8, .list 1 [], .bool false, .list 1 [], .bool false, .list 1 l8, .int .i64 (l8.length : Int), .int .i64 0])) := by kernel_rfl
noncomputable def noonbellref16_Surplus.l4 (n : Nat) (ms : List Nat) (m : Nat) (L : List FV) : Res := Lp En n 13 [1, 1, 0, 1, 0] ms m L
noncomputable def noonbellref16_Surplus.l10 (n : Nat) (ms : List Nat) (m : Nat) (L : List FV) : Res := Lp En n 13 [1, 1, 1, 1, 0, 1, 0] ms m L
theorem noonbellref16_Surplus.l4_eq (n m : Nat) (s0 : ByteArray) (x1 : Int) (x2 : Int) (b3 : Bool) (x4 : Int) (l5 : List FV) (x6 : Int) (x7 : Int) (l8 : List FV) (x9 : Int) : noonbellref16_Surplus.l4 n [] (m + 1) [.str s0, .int .i64 x1, .int .i64 x2, .bool b3, .int .i64 x4, .list 1 l5, .int .i64 x6, .int .i64 x7, .list 1 l8, .int .i64 x9] = 
  (bif (decide (x9 < (l8.length : Int))) then 
    (bif (decide (x2 < 0)) then some [.str { data := #[] }, .int .i64 120]
     else (ix x9 l8.length).bind fun i0 => (asLst 1 (at' l8 i0 0)).bind fun v1 => 
      (bif (decide (x2 ≥ (v1.length : Int))) then some [.str { data := #[] }, .int .i64 120]
       else noonbellref16_Surplus.l4 n [] m [.str s0, .int .i64 x1, .int .i64 x2, .bool b3, .int .i64 x4, .list 1 l5, .int .i64 x6, .int .i64 x7, .list 1 l8, .int .i64 (Go.IntKind.wrap .i64 (x9 + 1))]))
   else (evF En n 14 [.int .i64 0]).bind fun r2 => (asBool (r2[0]?)).bind fun c3 => (asLst 1 (r2[1]?)).bind fun v4 => (asBool (r2[2]?)).bind fun c5 => (asLst 1 (r2[3]?)).bind fun v6 => noonbellref16_Surplus.l10 n [] n [.str s0, .int .i64 x1, .int .i64 x2, .bool b3, .int .i64 x4, .list 1 l5, .int .i64 x6, .int .i64 x7, .bool c3, .list 1 v4, .bool c5, .list 1 v6, .list 1 l8, .int .i64 0]) := by kernel_rfl
theorem noonbellref16_Surplus.l10_eq (n m : Nat) (s0 : ByteArray) (x1 : Int) (x2 : Int) (b3 : Bool) (x4 : Int) (l5 : List FV) (x6 : Int) (x7 : Int) (b8 : Bool) (l9 : List FV) (b10 : Bool) (l11 : List FV) (l12 : List FV) (x13 : Int) : noonbellref16_Surplus.l10 n [] (m + 1) [.str s0, .int .i64 x1, .int .i64 x2, .bool b3, .int .i64 x4, .list 1 l5, .int .i64 x6, .int .i64 x7, .bool b8, .list 1 l9, .bool b10, .list 1 l11, .list 1 l12, .int .i64 x13] = 
  (bif (decide (x13 < (l12.length : Int))) then (ix x13 l12.length).bind fun i0 => (asLst 1 (at' l12 i0 0)).bind fun v1 => (ix x2 v1.length).bind fun i2 => (asStr (at' v1 i2 0)).bind fun u3 => (evF En n 49 [.str u3]).bind fun r4 => (asBool (r4[0]?)).bind fun c5 => (asLst 1 (r4[1]?)).bind fun v6 => (asBool (r4[2]?)).bind fun c7 => (asLst 1 (r4[3]?)).bind fun v8 => (asInt .i64 (r4[4]?)).bind fun n9 => 
    (bif (n9 != 0) then some [.str { data := #[] }, .int .i64 10]
     else (evF En n 14 [.int .i64 x4]).bind fun r10 => (asBool (r10[0]?)).bind fun c11 => (asLst 1 (r10[1]?)).bind fun v12 => (asBool (r10[2]?)).bind fun c13 => (asLst 1 (r10[3]?)).bind fun v14 => (evF En n 50 [.bool c5, .list 1 v6, .bool c7, .list 1 v8, .bool c11, .list 1 v12, .bool c13, .list 1 v14]).bind fun r15 => (asBool (r15[0]?)).bind fun c16 => (asLst 1 (r15[1]?)).bind fun v17 => (asBool (r15[2]?)).bind fun c18 => (asLst 1 (r15[3]?)).bind fun v19 => 
      (bif b3 then (evF En n 51 [.bool c16, .list 1 v17, .bool c18, .list 1 v19]).bind fun r20 => (asBool (r20[0]?)).bind fun c21 => (asLst 1 (r20[1]?)).bind fun v22 => (asBool (r20[2]?)).bind fun c23 => (asLst 1 (r20[3]?)).bind fun v24 => (ix x13 l5.length).bind fun i25 => (asInt .i64 (at' l5 i25 0)).bind fun n26 => (evF En n 14 [.int .i64 n26]).bind fun r27 => (asBool (r27[0]?)).bind fun c28 => (asLst 1 (r27[1]?)).bind fun v29 => (asBool (r27[2]?)).bind fun c30 => (asLst 1 (r27[3]?)).bind fun v31 => (evF En n 53 [.bool c21, .list 1 v22, .bool c23, .list 1 v24, .bool c28, .list 1 v29, .bool c30, .list 1 v31]).bind fun r32 => (asBool (r32[0]?)).bind fun c33 => (asLst 1 (r32[1]?)).bind fun v34 => (asBool (r32[2]?)).bind fun c35 => (asLst 1 (r32[3]?)).bind fun v36 => (evF En n 52 [.bool b8, .list 1 l9, .bool b10, .list 1 l11, .bool c33, .list 1 v34, .bool c35, .list 1 v36]).bind fun r37 => (asBool (r37[0]?)).bind fun c38 => (asLst 1 (r37[1]?)).bind fun v39 => (asBool (r37[2]?)).bind fun c40 => (asLst 1 (r37[3]?)).bind fun v41 => noonbellref16_Surplus.l10 n [] m [.str s0, .int .i64 x1, .int .i64 x2, .bool b3, .int .i64 x4, .list 1 l5, .int .i64 x6, .int .i64 x7, .bool c38, .list 1 v39, .bool c40, .list 1 v41, .list 1 l12, .int .i64 (Go.IntKind.wrap .i64 (x13 + 1))]
       else (ix x13 l5.length).bind fun i42 => (asInt .i64 (at' l5 i42 0)).bind fun n43 => (evF En n 14 [.int .i64 n43]).bind fun r44 => (asBool (r44[0]?)).bind fun c45 => (asLst 1 (r44[1]?)).bind fun v46 => (asBool (r44[2]?)).bind fun c47 => (asLst 1 (r44[3]?)).bind fun v48 => (evF En n 53 [.bool c16, .list 1 v17, .bool c18, .list 1 v19, .bool c45, .list 1 v46, .bool c47, .list 1 v48]).bind fun r49 => (asBool (r49[0]?)).bind fun c50 => (asLst 1 (r49[1]?)).bind fun v51 => (asBool (r49[2]?)).bind fun c52 => (asLst 1 (r49[3]?)).bind fun v53 => (evF En n 52 [.bool b8, .list 1 l9, .bool b10, .list 1 l11, .bool c50, .list 1 v51, .bool c52, .list 1 v53]).bind fun r54 => (asBool (r54[0]?)).bind fun c55 => (asLst 1 (r54[1]?)).bind fun v56 => (asBool (r54[2]?)).bind fun c57 => (asLst 1 (r54[3]?)).bind fun v58 => noonbellref16_Surplus.l10 n [] m [.str s0, .int .i64 x1, .int .i64 x2, .bool b3, .int .i64 x4, .list 1 l5, .int .i64 x6, .int .i64 x7, .bool c55, .list 1 v56, .bool c57, .list 1 v58, .list 1 l12, .int .i64 (Go.IntKind.wrap .i64 (x13 + 1))]))
   else (evF En n 15 [.bool b8, .list 1 l9, .bool b10, .list 1 l11]).bind fun r59 => (asStr (r59[0]?)).bind fun u60 => some [.str u60, .int .i64 0]) := by kernel_rfl
theorem noonbellref16_Surplus_eq (n : Nat) (s0 : ByteArray) (x1 : Int) (x2 : Int) (b3 : Bool) (x4 : Int) (l5 : List FV) (x6 : Int) (x7 : Int) (l8 : List FV) : evF En (n + 1) 13 [.str s0, .int .i64 x1, .int .i64 x2, .bool b3, .int .i64 x4, .list 1 l5, .int .i64 x6, .int .i64 x7, .list 1 l8] = 
  (bif ((l8.length : Int) != (l5.length : Int)) then some [.str { data := #[] }, .int .i64 120]
   else noonbellref16_Surplus.l4 n [] n [.str s0, .int .i64 x1, .int .i64 x2, .bool b3, .int .i64 x4, .list 1 l5, .int .i64 x6, .int .i64 x7, .list 1 l8, .int .i64 0]) := by kernel_rfl
theorem result_Surplus_1_eq (n : Nat) (l0 : List FV) (s1 : ByteArray) (x2 : Int) (x3 : Int) (b4 : Bool) (x5 : Int) (l6 : List FV) (x7 : Int) (x8 : Int) : evF En (n + 1) 39 [.list 1 l0, .str s1, .int .i64 x2, .int .i64 x3, .bool b4, .int .i64 x5, .list 1 l6, .int .i64 x7, .int .i64 x8] = (evF En n 40 [.int .i64 x3, .int .i64 0, .int .i64 (Go.IntKind.wrap .i64 ((l0.length : Int) - 1))]).bind fun r0 => (asBool (r0[0]?)).bind fun c1 => some [.str s1, .int .i64 x2, .int .i64 x3, .bool b4, .int .i64 x5, .list 1 l6, .int .i64 x7, .int .i64 x8, .bool (!c1)] := by kernel_rfl
theorem result_fits_eq (n : Nat) (x0 : Int) (x1 : Int) (x2 : Int) : evF En (n + 1) 40 [.int .i64 x0, .int .i64 x1, .int .i64 x2] = 
  (bif (decide (x1 ≤ x0)) then some [.bool (decide (x0 ≤ x2))]
   else some [.bool false]) := by kernel_rfl
theorem slices_ContainsFunc_string_string_eq (n : Nat) (l0 : List FV) (s1 : ByteArray) (x2 : Int) (x3 : Int) (b4 : Bool) (x5 : Int) (l6 : List FV) (x7 : Int) (x8 : Int) : evF En (n + 1) 41 [.list 1 l0, .str s1, .int .i64 x2, .int .i64 x3, .bool b4, .int .i64 x5, .list 1 l6, .int .i64 x7, .int .i64 x8] = (evF En n 77 [.list 1 l0, .str s1, .int .i64 x2, .int .i64 x3, .bool b4, .int .i64 x5, .list 1 l6, .int .i64 x7, .int .i64 x8]).bind fun r0 => (asStr (r0[0]?)).bind fun u1 => (asInt .i64 (r0[1]?)).bind fun n2 => (asInt .i64 (r0[2]?)).bind fun n3 => (asBool (r0[3]?)).bind fun c4 => (asInt .i64 (r0[4]?)).bind fun n5 => (asLst 1 (r0[5]?)).bind fun v6 => (asInt .i64 (r0[6]?)).bind fun n7 => (asInt .i64 (r0[7]?)).bind fun n8 => (asInt .i64 (r0[8]?)).bind fun n9 => some [.str u1, .int .i64 n2, .int .i64 n3, .bool c4, .int .i64 n5, .list 1 v6, .int .i64 n7, .int .i64 n8, .bool (decide (n9 ≥ 0))] := by kernel_rfl
noncomputable def slices_IndexFunc_string_string.l2 (n : Nat) (ms : List Nat) (m : Nat) (L : List FV) : Res := Lp En n 77 [1, 0, 1, 0] ms m L
theorem slices_IndexFunc_string_string.l2_eq (n m : Nat) (s0 : ByteArray) (x1 : Int) (x2 : Int) (b3 : Bool) (x4 : Int) (l5 : List FV) (x6 : Int) (x7 : Int) (l8 : List FV) (x9 : Int) (x10 : Int) : slices_IndexFunc_string_string.l2 n [] (m + 1) [.str s0, .int .i64 x1, .int .i64 x2, .bool b3, .int .i64 x4, .list 1 l5, .int .i64 x6, .int .i64 x7, .list 1 l8, .int .i64 x9, .int .i64 x10] = 
  (bif (decide (x10 < x9)) then (ix x10 l8.length).bind fun i0 => (asLst 1 (at' l8 i0 0)).bind fun v1 => (evF En n 39 [.list 1 v1, .str s0, .int .i64 x1, .int .i64 x2, .bool b3, .int .i64 x4, .list 1 l5, .int .i64 x6, .int .i64 x7]).bind fun r2 => (asStr (r2[0]?)).bind fun u3 => (asInt .i64 (r2[1]?)).bind fun n4 => (asInt .i64 (r2[2]?)).bind fun n5 => (asBool (r2[3]?)).bind fun c6 => (asInt .i64 (r2[4]?)).bind fun n7 => (asLst 1 (r2[5]?)).bind fun v8 => (asInt .i64 (r2[6]?)).bind fun n9 => (asInt .i64 (r2[7]?)).bind fun n10 => (asBool (r2[8]?)).bind fun c11 => 
    (bif c11 then some [.str u3, .int .i64 n4, .int .i64 n5, .bool c6, .int .i64 n7, .list 1 v8, .int .i64 n9, .int .i64 n10, .int .i64 x10]
     else slices_IndexFunc_string_string.l2 n [] m [.str u3, .int .i64 n4, .int .i64 n5, .bool c6, .int .i64 n7, .list 1 v8, .int .i64 n9, .int .i64 n10, .list 1 l8, .int .i64 x9, .int .i64 (Go.IntKind.wrap .i64 (x10 + 1))])
   else some [.str s0, .int .i64 x1, .int .i64 x2, .bool b3, .int .i64 x4, .list 1 l5, .int .i64 x6, .int .i64 x7, .int .i64 (-1)]) := by kernel_rfl
theorem slices_IndexFunc_string_string_eq (n : Nat) (l0 : List FV) (s1 : ByteArray) (x2 : Int) (x3 : Int) (b4 : Bool) (x5 : Int) (l6 : List FV) (x7 : Int) (x8 : Int) : evF En (n + 1) 77 [.list 1 l0, .str s1, .int .i64 x2, .int .i64 x3, .bool b4, .int .i64 x5, .list 1 l6, .int .i64 x7, .int .i64 x8] = slices_IndexFunc_string_string.l2 n [] n [.str s1, .int .i64 x2, .int .i64 x3, .bool b4, .int .i64 x5, .list 1 l6, .int .i64 x7, .int .i64 x8, .list 1 l0, .int .i64 (l0.length : Int), .int .i64 0] := by kernel_rfl

end Rf
