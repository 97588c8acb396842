/- Made by a program of this work: what each function comes to, one step of it; by the kernel. -/
import Derived.Test.YtebaohjeodeaoaaGreatDoorRfEnv
import Derived.KernelRfl
set_option linter.unusedVariables false
set_option maxRecDepth 100000
set_option maxHeartbeats 4000000
namespace Rf
open Go

theorem rat_Parse_eq (n : Nat) (s0 : ByteArray) : evF En (n + 1) 42 [.str s0] = (evF En n 78 [.str s0, .str { data := #[47] }]).bind fun r0 => (asStr (r0[0]?)).bind fun u1 => (asStr (r0[1]?)).bind fun u2 => (asBool (r0[2]?)).bind fun c3 => (evF En n 79 [.str u1]).bind fun r4 => (asLst 1 (r4[0]?)).bind fun v5 => (asBool (r4[1]?)).bind fun c6 => (asInt .i64 (r4[2]?)).bind fun n7 => (evF En n 80 []).bind fun r8 => (asLst 1 (r8[0]?)).bind fun v9 => (asBool (r8[1]?)).bind fun c10 => 
  (bif c3 then 
    (bif (n7 == 0) then (evF En n 79 [.str u2]).bind fun r11 => (asLst 1 (r11[0]?)).bind fun v12 => (asBool (r11[1]?)).bind fun c13 => (asInt .i64 (r11[2]?)).bind fun n14 => 
      (bif (n14 != 0) then some [.list 1 [], .bool false, .list 1 [], .bool false, .int .i64 10]
       else (evF En n 81 [.list 1 v5, .bool c6, .list 1 v12, .bool c13]).bind fun r15 => (asLst 1 (r15[0]?)).bind fun v16 => (asBool (r15[1]?)).bind fun c17 => (asLst 1 (r15[2]?)).bind fun v18 => (asBool (r15[3]?)).bind fun c19 => (asInt .i64 (r15[4]?)).bind fun n20 => 
        (bif (n20 != 0) then some [.list 1 [], .bool false, .list 1 [], .bool false, .int .i64 10]
         else (evF En n 48 [.list 1 v16, .bool c17, .list 1 v18, .bool c19]).bind fun r21 => (asStr (r21[0]?)).bind fun u22 => 
          (bif (!(u22.toList == s0.toList)) then some [.list 1 [], .bool false, .list 1 [], .bool false, .int .i64 10]
           else some [.list 1 v16, .bool c17, .list 1 v18, .bool c19, .int .i64 0])))
     else 
      (bif (n7 != 0) then some [.list 1 [], .bool false, .list 1 [], .bool false, .int .i64 10]
       else (evF En n 81 [.list 1 v5, .bool c6, .list 1 v9, .bool c10]).bind fun r23 => (asLst 1 (r23[0]?)).bind fun v24 => (asBool (r23[1]?)).bind fun c25 => (asLst 1 (r23[2]?)).bind fun v26 => (asBool (r23[3]?)).bind fun c27 => (asInt .i64 (r23[4]?)).bind fun n28 => 
        (bif (n28 != 0) then some [.list 1 [], .bool false, .list 1 [], .bool false, .int .i64 10]
         else (evF En n 48 [.list 1 v24, .bool c25, .list 1 v26, .bool c27]).bind fun r29 => (asStr (r29[0]?)).bind fun u30 => 
          (bif (!(u30.toList == s0.toList)) then some [.list 1 [], .bool false, .list 1 [], .bool false, .int .i64 10]
           else some [.list 1 v24, .bool c25, .list 1 v26, .bool c27, .int .i64 0]))))
   else 
    (bif (n7 != 0) then some [.list 1 [], .bool false, .list 1 [], .bool false, .int .i64 10]
     else (evF En n 81 [.list 1 v5, .bool c6, .list 1 v9, .bool c10]).bind fun r31 => (asLst 1 (r31[0]?)).bind fun v32 => (asBool (r31[1]?)).bind fun c33 => (asLst 1 (r31[2]?)).bind fun v34 => (asBool (r31[3]?)).bind fun c35 => (asInt .i64 (r31[4]?)).bind fun n36 => 
      (bif (n36 != 0) then some [.list 1 [], .bool false, .list 1 [], .bool false, .int .i64 10]
       else (evF En n 48 [.list 1 v32, .bool c33, .list 1 v34, .bool c35]).bind fun r37 => (asStr (r37[0]?)).bind fun u38 => 
        (bif (!(u38.toList == s0.toList)) then some [.list 1 [], .bool false, .list 1 [], .bool false, .int .i64 10]
         else some [.list 1 v32, .bool c33, .list 1 v34, .bool c35, .int .i64 0])))) := by kernel_rfl
theorem rat_Rat_Add_eq (n : Nat) (l0 : List FV) (b1 : Bool) (l2 : List FV) (b3 : Bool) (l4 : List FV) (b5 : Bool) (l6 : List FV) (b7 : Bool) : evF En (n + 1) 43 [.list 1 l0, .bool b1, .list 1 l2, .bool b3, .list 1 l4, .bool b5, .list 1 l6, .bool b7] = (evF En n 82 [.list 1 l0, .bool b1, .list 1 l2, .bool b3, .list 1 l4, .bool b5, .list 1 l6, .bool b7, .raw (Go.Value.func (Go.Fn.func 67) #[] #[])]).bind fun r0 => (asLst 1 (r0[0]?)).bind fun v1 => (asBool (r0[1]?)).bind fun c2 => (asLst 1 (r0[2]?)).bind fun v3 => (asBool (r0[3]?)).bind fun c4 => some [.list 1 v1, .bool c2, .list 1 v3, .bool c4] := by kernel_rfl
theorem rat_Rat_Sub_eq (n : Nat) (l0 : List FV) (b1 : Bool) (l2 : List FV) (b3 : Bool) (l4 : List FV) (b5 : Bool) (l6 : List FV) (b7 : Bool) : evF En (n + 1) 44 [.list 1 l0, .bool b1, .list 1 l2, .bool b3, .list 1 l4, .bool b5, .list 1 l6, .bool b7] = (evF En n 82 [.list 1 l0, .bool b1, .list 1 l2, .bool b3, .list 1 l4, .bool b5, .list 1 l6, .bool b7, .raw (Go.Value.func (Go.Fn.func 83) #[] #[])]).bind fun r0 => (asLst 1 (r0[0]?)).bind fun v1 => (asBool (r0[1]?)).bind fun c2 => (asLst 1 (r0[2]?)).bind fun v3 => (asBool (r0[3]?)).bind fun c4 => some [.list 1 v1, .bool c2, .list 1 v3, .bool c4] := by kernel_rfl
theorem rat_Of_eq (n : Nat) (x0 : Int) : evF En (n + 1) 45 [.int .i64 x0] = (evF En n 84 [.int .i64 x0]).bind fun r0 => (asLst 1 (r0[0]?)).bind fun v1 => (asBool (r0[1]?)).bind fun c2 => (evF En n 80 []).bind fun r3 => (asLst 1 (r3[0]?)).bind fun v4 => (asBool (r3[1]?)).bind fun c5 => some [.list 1 v1, .bool c2, .list 1 v4, .bool c5] := by kernel_rfl
theorem rat_Rat_Mul_eq (n : Nat) (l0 : List FV) (b1 : Bool) (l2 : List FV) (b3 : Bool) (l4 : List FV) (b5 : Bool) (l6 : List FV) (b7 : Bool) : evF En (n + 1) 46 [.list 1 l0, .bool b1, .list 1 l2, .bool b3, .list 1 l4, .bool b5, .list 1 l6, .bool b7] = (evF En n 85 [.list 1 l0, .bool b1, .list 1 l4, .bool b5]).bind fun r0 => (asLst 1 (r0[0]?)).bind fun v1 => (asBool (r0[1]?)).bind fun c2 => (evF En n 86 [.list 1 l0, .bool b1, .list 1 l2, .bool b3]).bind fun r3 => (asLst 1 (r3[0]?)).bind fun v4 => (asBool (r3[1]?)).bind fun c5 => (evF En n 86 [.list 1 l4, .bool b5, .list 1 l6, .bool b7]).bind fun r6 => (asLst 1 (r6[0]?)).bind fun v7 => (asBool (r6[1]?)).bind fun c8 => (evF En n 85 [.list 1 v4, .bool c5, .list 1 v7, .bool c8]).bind fun r9 => (asLst 1 (r9[0]?)).bind fun v10 => (asBool (r9[1]?)).bind fun c11 => (evF En n 81 [.list 1 v1, .bool c2, .list 1 v10, .bool c11]).bind fun r12 => (asLst 1 (r12[0]?)).bind fun v13 => (asBool (r12[1]?)).bind fun c14 => (asLst 1 (r12[2]?)).bind fun v15 => (asBool (r12[3]?)).bind fun c16 => (asInt .i64 (r12[4]?)).bind fun n17 => some [.list 1 v13, .bool c14, .list 1 v15, .bool c16] := by kernel_rfl
theorem rat_Rat_Neg_eq (n : Nat) (l0 : List FV) (b1 : Bool) (l2 : List FV) (b3 : Bool) : evF En (n + 1) 47 [.list 1 l0, .bool b1, .list 1 l2, .bool b3] = (evF En n 87 [.list 1 l0, .bool b1]).bind fun r0 => (asLst 1 (r0[0]?)).bind fun v1 => (asBool (r0[1]?)).bind fun c2 => (evF En n 86 [.list 1 l0, .bool b1, .list 1 l2, .bool b3]).bind fun r3 => (asLst 1 (r3[0]?)).bind fun v4 => (asBool (r3[1]?)).bind fun c5 => some [.list 1 v1, .bool c2, .list 1 v4, .bool c5] := by kernel_rfl
theorem rat_Rat_Text_eq (n : Nat) (l0 : List FV) (b1 : Bool) (l2 : List FV) (b3 : Bool) : evF En (n + 1) 48 [.list 1 l0, .bool b1, .list 1 l2, .bool b3] = (evF En n 86 [.list 1 l0, .bool b1, .list 1 l2, .bool b3]).bind fun r0 => (asLst 1 (r0[0]?)).bind fun v1 => (asBool (r0[1]?)).bind fun c2 => (evF En n 80 []).bind fun r3 => (asLst 1 (r3[0]?)).bind fun v4 => (asBool (r3[1]?)).bind fun c5 => (evF En n 88 [.list 1 v1, .bool c2, .list 1 v4, .bool c5]).bind fun r6 => (asInt .i64 (r6[0]?)).bind fun n7 => 
  (bif (n7 == 0) then (evF En n 71 [.list 1 l0, .bool b1]).bind fun r8 => (asStr (r8[0]?)).bind fun u9 => some [.str u9]
   else (evF En n 71 [.list 1 l0, .bool b1]).bind fun r10 => (asStr (r10[0]?)).bind fun u11 => 
    (bif (decide (((u11.size + 1) : Int) > 9223372036854775807)) then none
     else (evF En n 71 [.list 1 l2, .bool b3]).bind fun r12 => (asStr (r12[0]?)).bind fun u13 => 
      (bif (decide ((((u11 ++ { data := #[47] }).size + u13.size) : Int) > 9223372036854775807)) then none
       else some [.str ((u11 ++ { data := #[47] }) ++ u13)]))) := by kernel_rfl
theorem num_Num_Add_eq (n : Nat) (l0 : List FV) (b1 : Bool) (l2 : List FV) (b3 : Bool) : evF En (n + 1) 67 [.list 1 l0, .bool b1, .list 1 l2, .bool b3] = 
  (bif (b1 == b3) then (evF En n 112 [.list 1 l0, .list 1 l2]).bind fun r0 => (asLst 1 (r0[0]?)).bind fun v1 => (evF En n 111 [.bool b1, .list 1 v1]).bind fun r2 => (asLst 1 (r2[0]?)).bind fun v3 => (asBool (r2[1]?)).bind fun c4 => some [.list 1 v3, .bool c4]
   else (evF En n 113 [.list 1 l0, .list 1 l2]).bind fun r5 => (asLst 1 (r5[0]?)).bind fun v6 => (asInt .i64 (r5[1]?)).bind fun n7 => 
    (bif (n7 == 0) then (evF En n 111 [.bool b1, .list 1 v6]).bind fun r8 => (asLst 1 (r8[0]?)).bind fun v9 => (asBool (r8[1]?)).bind fun c10 => some [.list 1 v9, .bool c10]
     else (evF En n 113 [.list 1 l2, .list 1 l0]).bind fun r11 => (asLst 1 (r11[0]?)).bind fun v12 => (asInt .i64 (r11[1]?)).bind fun n13 => (evF En n 111 [.bool b3, .list 1 v12]).bind fun r14 => (asLst 1 (r14[0]?)).bind fun v15 => (asBool (r14[1]?)).bind fun c16 => some [.list 1 v15, .bool c16])) := by kernel_rfl
theorem num_Num_Text_eq (n : Nat) (l0 : List FV) (b1 : Bool) : evF En (n + 1) 71 [.list 1 l0, .bool b1] = 
  (bif b1 then (evF En n 117 [.list 1 l0]).bind fun r0 => (asStr (r0[0]?)).bind fun u1 => 
    (bif (decide (((1 + u1.size) : Int) > 9223372036854775807)) then none
     else some [.str ({ data := #[45] } ++ u1)])
   else (evF En n 117 [.list 1 l0]).bind fun r2 => (asStr (r2[0]?)).bind fun u3 => some [.str u3]) := by kernel_rfl
theorem num_Parse_eq (n : Nat) (s0 : ByteArray) : evF En (n + 1) 79 [.str s0] = (evF En n 121 [.str s0, .str { data := #[45] }]).bind fun r0 => (asStr (r0[0]?)).bind fun u1 => (asBool (r0[1]?)).bind fun c2 => (evF En n 122 [.str u1]).bind fun r3 => (asLst 1 (r3[0]?)).bind fun v4 => (asInt .i64 (r3[1]?)).bind fun n5 => 
  (bif (n5 != 0) then some [.list 1 [], .bool false, .int .i64 10]
   else 
    (bif c2 then (evF En n 123 [.list 1 v4]).bind fun r6 => (asInt .i64 (r6[0]?)).bind fun n7 => 
      (bif (n7 == 0) then some [.list 1 [], .bool false, .int .i64 10]
       else (evF En n 111 [.bool c2, .list 1 v4]).bind fun r8 => (asLst 1 (r8[0]?)).bind fun v9 => (asBool (r8[1]?)).bind fun c10 => some [.list 1 v9, .bool c10, .int .i64 0])
     else (evF En n 111 [.bool c2, .list 1 v4]).bind fun r11 => (asLst 1 (r11[0]?)).bind fun v12 => (asBool (r11[1]?)).bind fun c13 => some [.list 1 v12, .bool c13, .int .i64 0])) := by kernel_rfl
theorem rat_one_eq (n : Nat)  : evF En (n + 1) 80 [] = (evF En n 84 [.int .i64 1]).bind fun r0 => (asLst 1 (r0[0]?)).bind fun v1 => (asBool (r0[1]?)).bind fun c2 => some [.list 1 v1, .bool c2] := by kernel_rfl
theorem rat_Make_eq (n : Nat) (l0 : List FV) (b1 : Bool) (l2 : List FV) (b3 : Bool) : evF En (n + 1) 81 [.list 1 l0, .bool b1, .list 1 l2, .bool b3] = (evF En n 110 [.list 1 l2, .bool b3]).bind fun r0 => (asInt .i64 (r0[0]?)).bind fun n1 => 
  (bif (n1 == 0) then some [.list 1 [], .bool false, .list 1 [], .bool false, .int .i64 12]
   else 
    (bif (n1 == (-1)) then (evF En n 87 [.list 1 l0, .bool b1]).bind fun r2 => (asLst 1 (r2[0]?)).bind fun v3 => (asBool (r2[1]?)).bind fun c4 => (evF En n 87 [.list 1 l2, .bool b3]).bind fun r5 => (asLst 1 (r5[0]?)).bind fun v6 => (asBool (r5[1]?)).bind fun c7 => (evF En n 124 [.list 1 v3, .bool c4]).bind fun r8 => (asLst 1 (r8[0]?)).bind fun v9 => (evF En n 124 [.list 1 v6, .bool c7]).bind fun r10 => (asLst 1 (r10[0]?)).bind fun v11 => (evF En n 125 [.list 1 v9, .list 1 v11]).bind fun r12 => (asLst 1 (r12[0]?)).bind fun v13 => (evF En n 111 [.bool false, .list 1 v13]).bind fun r14 => (asLst 1 (r14[0]?)).bind fun v15 => (asBool (r14[1]?)).bind fun c16 => (evF En n 80 []).bind fun r17 => (asLst 1 (r17[0]?)).bind fun v18 => (asBool (r17[1]?)).bind fun c19 => (evF En n 88 [.list 1 v15, .bool c16, .list 1 v18, .bool c19]).bind fun r20 => (asInt .i64 (r20[0]?)).bind fun n21 => 
      (bif (n21 != 0) then (evF En n 126 [.list 1 v3, .bool c4, .list 1 v15, .bool c16]).bind fun r22 => (asLst 1 (r22[0]?)).bind fun v23 => (asBool (r22[1]?)).bind fun c24 => (asLst 1 (r22[2]?)).bind fun v25 => (asBool (r22[3]?)).bind fun c26 => (asInt .i64 (r22[4]?)).bind fun n27 => (evF En n 126 [.list 1 v6, .bool c7, .list 1 v15, .bool c16]).bind fun r28 => (asLst 1 (r28[0]?)).bind fun v29 => (asBool (r28[1]?)).bind fun c30 => (asLst 1 (r28[2]?)).bind fun v31 => (asBool (r28[3]?)).bind fun c32 => (asInt .i64 (r28[4]?)).bind fun n33 => some [.list 1 v23, .bool c24, .list 1 v29, .bool c30, .int .i64 0]
       else some [.list 1 v3, .bool c4, .list 1 v6, .bool c7, .int .i64 0])
     else (evF En n 124 [.list 1 l0, .bool b1]).bind fun r34 => (asLst 1 (r34[0]?)).bind fun v35 => (evF En n 124 [.list 1 l2, .bool b3]).bind fun r36 => (asLst 1 (r36[0]?)).bind fun v37 => (evF En n 125 [.list 1 v35, .list 1 v37]).bind fun r38 => (asLst 1 (r38[0]?)).bind fun v39 => (evF En n 111 [.bool false, .list 1 v39]).bind fun r40 => (asLst 1 (r40[0]?)).bind fun v41 => (asBool (r40[1]?)).bind fun c42 => (evF En n 80 []).bind fun r43 => (asLst 1 (r43[0]?)).bind fun v44 => (asBool (r43[1]?)).bind fun c45 => (evF En n 88 [.list 1 v41, .bool c42, .list 1 v44, .bool c45]).bind fun r46 => (asInt .i64 (r46[0]?)).bind fun n47 => 
      (bif (n47 != 0) then (evF En n 126 [.list 1 l0, .bool b1, .list 1 v41, .bool c42]).bind fun r48 => (asLst 1 (r48[0]?)).bind fun v49 => (asBool (r48[1]?)).bind fun c50 => (asLst 1 (r48[2]?)).bind fun v51 => (asBool (r48[3]?)).bind fun c52 => (asInt .i64 (r48[4]?)).bind fun n53 => (evF En n 126 [.list 1 l2, .bool b3, .list 1 v41, .bool c42]).bind fun r54 => (asLst 1 (r54[0]?)).bind fun v55 => (asBool (r54[1]?)).bind fun c56 => (asLst 1 (r54[2]?)).bind fun v57 => (asBool (r54[3]?)).bind fun c58 => (asInt .i64 (r54[4]?)).bind fun n59 => some [.list 1 v49, .bool c50, .list 1 v55, .bool c56, .int .i64 0]
       else some [.list 1 l0, .bool b1, .list 1 l2, .bool b3, .int .i64 0]))) := by kernel_rfl
theorem rat_joined_eq (n : Nat) (l0 : List FV) (b1 : Bool) (l2 : List FV) (b3 : Bool) (l4 : List FV) (b5 : Bool) (l6 : List FV) (b7 : Bool)  : evF En (n + 1) 82 [.list 1 l0, .bool b1, .list 1 l2, .bool b3, .list 1 l4, .bool b5, .list 1 l6, .bool b7, .raw (Go.Value.func (Go.Fn.func 0) #[] #[])] = (evF En n 86 [.list 1 l0, .bool b1, .list 1 l2, .bool b3]).bind fun r0 => (asLst 1 (r0[0]?)).bind fun v1 => (asBool (r0[1]?)).bind fun c2 => (evF En n 80 []).bind fun r3 => (asLst 1 (r3[0]?)).bind fun v4 => (asBool (r3[1]?)).bind fun c5 => (evF En n 88 [.list 1 v1, .bool c2, .list 1 v4, .bool c5]).bind fun r6 => (asInt .i64 (r6[0]?)).bind fun n7 => 
  (bif (n7 == 0) then (evF En n 86 [.list 1 l4, .bool b5, .list 1 l6, .bool b7]).bind fun r8 => (asLst 1 (r8[0]?)).bind fun v9 => (asBool (r8[1]?)).bind fun c10 => (evF En n 80 []).bind fun r11 => (asLst 1 (r11[0]?)).bind fun v12 => (asBool (r11[1]?)).bind fun c13 => (evF En n 88 [.list 1 v9, .bool c10, .list 1 v12, .bool c13]).bind fun r14 => (asInt .i64 (r14[0]?)).bind fun n15 => 
    (bif (n15 == 0) then none
     else (evF En n 86 [.list 1 l4, .bool b5, .list 1 l6, .bool b7]).bind fun r16 => (asLst 1 (r16[0]?)).bind fun v17 => (asBool (r16[1]?)).bind fun c18 => (evF En n 85 [.list 1 l0, .bool b1, .list 1 v17, .bool c18]).bind fun r19 => (asLst 1 (r19[0]?)).bind fun v20 => (asBool (r19[1]?)).bind fun c21 => (evF En n 86 [.list 1 l0, .bool b1, .list 1 l2, .bool b3]).bind fun r22 => (asLst 1 (r22[0]?)).bind fun v23 => (asBool (r22[1]?)).bind fun c24 => (evF En n 85 [.list 1 l4, .bool b5, .list 1 v23, .bool c24]).bind fun r25 => (asLst 1 (r25[0]?)).bind fun v26 => (asBool (r25[1]?)).bind fun c27 => none)
   else (evF En n 86 [.list 1 l4, .bool b5, .list 1 l6, .bool b7]).bind fun r28 => (asLst 1 (r28[0]?)).bind fun v29 => (asBool (r28[1]?)).bind fun c30 => (evF En n 85 [.list 1 l0, .bool b1, .list 1 v29, .bool c30]).bind fun r31 => (asLst 1 (r31[0]?)).bind fun v32 => (asBool (r31[1]?)).bind fun c33 => (evF En n 86 [.list 1 l0, .bool b1, .list 1 l2, .bool b3]).bind fun r34 => (asLst 1 (r34[0]?)).bind fun v35 => (asBool (r34[1]?)).bind fun c36 => (evF En n 85 [.list 1 l4, .bool b5, .list 1 v35, .bool c36]).bind fun r37 => (asLst 1 (r37[0]?)).bind fun v38 => (asBool (r37[1]?)).bind fun c39 => none) := by kernel_rfl
theorem num_Num_Sub_eq (n : Nat) (l0 : List FV) (b1 : Bool) (l2 : List FV) (b3 : Bool) : evF En (n + 1) 83 [.list 1 l0, .bool b1, .list 1 l2, .bool b3] = (evF En n 87 [.list 1 l2, .bool b3]).bind fun r0 => (asLst 1 (r0[0]?)).bind fun v1 => (asBool (r0[1]?)).bind fun c2 => (evF En n 67 [.list 1 l0, .bool b1, .list 1 v1, .bool c2]).bind fun r3 => (asLst 1 (r3[0]?)).bind fun v4 => (asBool (r3[1]?)).bind fun c5 => some [.list 1 v4, .bool c5] := by kernel_rfl
theorem num_Of_eq (n : Nat) (x0 : Int) : evF En (n + 1) 84 [.int .i64 x0] = 
  (bif (decide (x0 < 0)) then (evF En n 127 [.int .u64 (Go.IntKind.wrap .u64 (0 - (Go.IntKind.wrap .u64 x0)))]).bind fun r0 => (asLst 1 (r0[0]?)).bind fun v1 => (evF En n 111 [.bool true, .list 1 v1]).bind fun r2 => (asLst 1 (r2[0]?)).bind fun v3 => (asBool (r2[1]?)).bind fun c4 => some [.list 1 v3, .bool c4]
   else (evF En n 127 [.int .u64 (Go.IntKind.wrap .u64 x0)]).bind fun r5 => (asLst 1 (r5[0]?)).bind fun v6 => (evF En n 111 [.bool false, .list 1 v6]).bind fun r7 => (asLst 1 (r7[0]?)).bind fun v8 => (asBool (r7[1]?)).bind fun c9 => some [.list 1 v8, .bool c9]) := by kernel_rfl
theorem num_Num_Mul_eq (n : Nat) (l0 : List FV) (b1 : Bool) (l2 : List FV) (b3 : Bool) : evF En (n + 1) 85 [.list 1 l0, .bool b1, .list 1 l2, .bool b3] = (evF En n 128 [.list 1 l0, .list 1 l2]).bind fun r0 => (asLst 1 (r0[0]?)).bind fun v1 => (evF En n 111 [.bool (!(b1 == b3)), .list 1 v1]).bind fun r2 => (asLst 1 (r2[0]?)).bind fun v3 => (asBool (r2[1]?)).bind fun c4 => some [.list 1 v3, .bool c4] := by kernel_rfl
theorem rat_Rat_Den_eq (n : Nat) (l0 : List FV) (b1 : Bool) (l2 : List FV) (b3 : Bool) : evF En (n + 1) 86 [.list 1 l0, .bool b1, .list 1 l2, .bool b3] = (evF En n 110 [.list 1 l2, .bool b3]).bind fun r0 => (asInt .i64 (r0[0]?)).bind fun n1 => 
  (bif (n1 == 0) then (evF En n 80 []).bind fun r2 => (asLst 1 (r2[0]?)).bind fun v3 => (asBool (r2[1]?)).bind fun c4 => some [.list 1 v3, .bool c4]
   else some [.list 1 l2, .bool b3]) := by kernel_rfl
theorem num_Num_Neg_eq (n : Nat) (l0 : List FV) (b1 : Bool) : evF En (n + 1) 87 [.list 1 l0, .bool b1] = (evF En n 111 [.bool (!b1), .list 1 l0]).bind fun r0 => (asLst 1 (r0[0]?)).bind fun v1 => (asBool (r0[1]?)).bind fun c2 => some [.list 1 v1, .bool c2] := by kernel_rfl
theorem num_Num_Cmp_eq (n : Nat) (l0 : List FV) (b1 : Bool) (l2 : List FV) (b3 : Bool) : evF En (n + 1) 88 [.list 1 l0, .bool b1, .list 1 l2, .bool b3] = 
  (bif b1 then 
    (bif (!b3) then some [.int .i64 (-1)]
     else 
      (bif (!b1) then 
        (bif b3 then some [.int .i64 1]
         else 
          (bif b1 then (evF En n 129 [.list 1 l2, .list 1 l0]).bind fun r0 => (asInt .i64 (r0[0]?)).bind fun n1 => some [.int .i64 n1]
           else (evF En n 129 [.list 1 l0, .list 1 l2]).bind fun r2 => (asInt .i64 (r2[0]?)).bind fun n3 => some [.int .i64 n3]))
       else 
        (bif b1 then (evF En n 129 [.list 1 l2, .list 1 l0]).bind fun r4 => (asInt .i64 (r4[0]?)).bind fun n5 => some [.int .i64 n5]
         else (evF En n 129 [.list 1 l0, .list 1 l2]).bind fun r6 => (asInt .i64 (r6[0]?)).bind fun n7 => some [.int .i64 n7])))
   else 
    (bif (!b1) then 
      (bif b3 then some [.int .i64 1]
       else 
        (bif b1 then (evF En n 129 [.list 1 l2, .list 1 l0]).bind fun r8 => (asInt .i64 (r8[0]?)).bind fun n9 => some [.int .i64 n9]
         else (evF En n 129 [.list 1 l0, .list 1 l2]).bind fun r10 => (asInt .i64 (r10[0]?)).bind fun n11 => some [.int .i64 n11]))
     else 
      (bif b1 then (evF En n 129 [.list 1 l2, .list 1 l0]).bind fun r12 => (asInt .i64 (r12[0]?)).bind fun n13 => some [.int .i64 n13]
       else (evF En n 129 [.list 1 l0, .list 1 l2]).bind fun r14 => (asInt .i64 (r14[0]?)).bind fun n15 => some [.int .i64 n15]))) := by kernel_rfl
theorem rat_Rat_Sign_eq (n : Nat) (l0 : List FV) (b1 : Bool) (l2 : List FV) (b3 : Bool) : evF En (n + 1) 95 [.list 1 l0, .bool b1, .list 1 l2, .bool b3] = (evF En n 110 [.list 1 l0, .bool b1]).bind fun r0 => (asInt .i64 (r0[0]?)).bind fun n1 => some [.int .i64 n1] := by kernel_rfl
theorem rat_Rat_Cmp_eq (n : Nat) (l0 : List FV) (b1 : Bool) (l2 : List FV) (b3 : Bool) (l4 : List FV) (b5 : Bool) (l6 : List FV) (b7 : Bool) : evF En (n + 1) 96 [.list 1 l0, .bool b1, .list 1 l2, .bool b3, .list 1 l4, .bool b5, .list 1 l6, .bool b7] = (evF En n 86 [.list 1 l4, .bool b5, .list 1 l6, .bool b7]).bind fun r0 => (asLst 1 (r0[0]?)).bind fun v1 => (asBool (r0[1]?)).bind fun c2 => (evF En n 85 [.list 1 l0, .bool b1, .list 1 v1, .bool c2]).bind fun r3 => (asLst 1 (r3[0]?)).bind fun v4 => (asBool (r3[1]?)).bind fun c5 => (evF En n 86 [.list 1 l0, .bool b1, .list 1 l2, .bool b3]).bind fun r6 => (asLst 1 (r6[0]?)).bind fun v7 => (asBool (r6[1]?)).bind fun c8 => (evF En n 85 [.list 1 l4, .bool b5, .list 1 v7, .bool c8]).bind fun r9 => (asLst 1 (r9[0]?)).bind fun v10 => (asBool (r9[1]?)).bind fun c11 => (evF En n 88 [.list 1 v4, .bool c5, .list 1 v10, .bool c11]).bind fun r12 => (asInt .i64 (r12[0]?)).bind fun n13 => some [.int .i64 n13] := by kernel_rfl
theorem num_Num_Sign_eq (n : Nat) (l0 : List FV) (b1 : Bool) : evF En (n + 1) 110 [.list 1 l0, .bool b1] = 
  (bif b1 then some [.int .i64 (-1)]
   else (evF En n 146 [.list 1 l0, .bool b1]).bind fun r0 => (asBool (r0[0]?)).bind fun c1 => 
    (bif c1 then some [.int .i64 0]
     else some [.int .i64 1])) := by kernel_rfl
theorem num_Make_eq (n : Nat) (b0 : Bool) (l1 : List FV) : evF En (n + 1) 111 [.bool b0, .list 1 l1] = 
  (bif b0 then (evF En n 123 [.list 1 l1]).bind fun r0 => (asInt .i64 (r0[0]?)).bind fun n1 => some [.list 1 l1, .bool (decide (n1 > 0))]
   else some [.list 1 l1, .bool false]) := by kernel_rfl
theorem strings_CutPrefix_eq (n : Nat) (s0 : ByteArray) (s1 : ByteArray) : evF En (n + 1) 121 [.str s0, .str s1] = (evF En n 159 [.str s0, .str s1]).bind fun r0 => (asStr (r0[0]?)).bind fun u1 => (asBool (r0[1]?)).bind fun c2 => some [.str u1, .bool c2] := by kernel_rfl
theorem num_Num_Abs_eq (n : Nat) (l0 : List FV) (b1 : Bool) : evF En (n + 1) 124 [.list 1 l0, .bool b1] = some [.list 1 l0] := by kernel_rfl
theorem num_Num_QuoRem_eq (n : Nat) (l0 : List FV) (b1 : Bool) (l2 : List FV) (b3 : Bool) : evF En (n + 1) 126 [.list 1 l0, .bool b1, .list 1 l2, .bool b3] = (evF En n 165 [.list 1 l0, .list 1 l2]).bind fun r0 => (asLst 1 (r0[0]?)).bind fun v1 => (asLst 1 (r0[1]?)).bind fun v2 => (asInt .i64 (r0[2]?)).bind fun n3 => 
  (bif (n3 != 0) then some [.list 1 [], .bool false, .list 1 [], .bool false, .int .i64 n3]
   else (evF En n 111 [.bool (!(b1 == b3)), .list 1 v1]).bind fun r4 => (asLst 1 (r4[0]?)).bind fun v5 => (asBool (r4[1]?)).bind fun c6 => (evF En n 111 [.bool b1, .list 1 v2]).bind fun r7 => (asLst 1 (r7[0]?)).bind fun v8 => (asBool (r7[1]?)).bind fun c9 => some [.list 1 v5, .bool c6, .list 1 v8, .bool c9, .int .i64 0]) := by kernel_rfl
theorem num_Num_zero_eq (n : Nat) (l0 : List FV) (b1 : Bool) : evF En (n + 1) 146 [.list 1 l0, .bool b1] = (evF En n 123 [.list 1 l0]).bind fun r0 => (asInt .i64 (r0[0]?)).bind fun n1 => some [.bool (n1 == 0)] := by kernel_rfl
theorem stringslite_CutPrefix_eq (n : Nat) (s0 : ByteArray) (s1 : ByteArray) : evF En (n + 1) 159 [.str s0, .str s1] = (evF En n 196 [.str s0, .str s1]).bind fun r0 => (asBool (r0[0]?)).bind fun c1 => 
  (bif (!c1) then some [.str s0, .bool false]
   else (bd (s1.size : Int) s0.size).bind fun i2 => some [.str (s0.extract i2 s0.size), .bool true]) := by kernel_rfl
theorem strings_HasPrefix_eq (n : Nat) (s0 : ByteArray) (s1 : ByteArray) : evF En (n + 1) 187 [.str s0, .str s1] = (evF En n 196 [.str s0, .str s1]).bind fun r0 => (asBool (r0[0]?)).bind fun c1 => some [.bool c1] := by kernel_rfl
theorem stringslite_HasPrefix_eq (n : Nat) (s0 : ByteArray) (s1 : ByteArray) : evF En (n + 1) 196 [.str s0, .str s1] = 
  (bif (decide ((s0.size : Int) ≥ (s1.size : Int))) then (bd (s1.size : Int) s0.size).bind fun i0 => some [.bool ((s0.extract 0 i0).toList == s1.toList)]
   else some [.bool false]) := by kernel_rfl

end Rf
