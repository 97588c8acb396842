/- Texts of this work put together: EqLib, EqNat, EqRat, EqJoinA, EqJoinS, EqRefN, EqRefR. -/
import Derived.Test.YtebaohjeodeaoaaGreatDoorMH
import Derived.KernelRfl

section
/- Made by a program of this work: what each function comes to, one step of it; by the kernel. -/
set_option linter.unusedVariables false
set_option maxRecDepth 100000
set_option maxHeartbeats 4000000
namespace Rf
open Go

theorem strings_Cut_eq (n : Nat) (s0 : ByteArray) (s1 : ByteArray) : evF En (n + 1) 78 [.str s0, .str s1] = (evF En n 120 [.str s0, .str s1]).bind fun r0 => (asStr (r0[0]?)).bind fun u1 => (asStr (r0[1]?)).bind fun u2 => (asBool (r0[2]?)).bind fun c3 => some [.str u1, .str u2, .bool c3] := by kernel_rfl
theorem stringslite_Cut_eq (n : Nat) (s0 : ByteArray) (s1 : ByteArray) : evF En (n + 1) 120 [.str s0, .str s1] = (evF En n 158 [.str s0, .str s1]).bind fun r0 => (asInt .i64 (r0[0]?)).bind fun n1 => 
  (bif (decide (n1 ≥ 0)) then (bd n1 s0.size).bind fun i2 => (bd (Go.IntKind.wrap .i64 (n1 + (s1.size : Int))) s0.size).bind fun i3 => some [.str (s0.extract 0 i2), .str (s0.extract i3 s0.size), .bool true]
   else some [.str s0, .str { data := #[] }, .bool false]) := by kernel_rfl
noncomputable def slices_Reverse_string_string.l1 (n : Nat) (ms : List Nat) (m : Nat) (L : List FV) : Res := Lp En n 156 [1, 0] ms m L
theorem slices_Reverse_string_string.l1_eq (n m : Nat) (l0 : List FV) (x1 : Int) (x2 : Int) : slices_Reverse_string_string.l1 n [] (m + 1) [.list 1 l0, .int .i64 x1, .int .i64 x2] = 
  (bif (decide (x1 < x2)) then (ix x2 l0.length).bind fun i0 => (asStr (at' l0 i0 0)).bind fun u1 => (ix x1 l0.length).bind fun i2 => (asStr (at' l0 i2 0)).bind fun u3 => (ix x1 l0.length).bind fun i4 => (ix x2 (List.set l0 i4 (.str u1)).length).bind fun i5 => slices_Reverse_string_string.l1 n [] m [.list 1 (List.set (List.set l0 i4 (.str u1)) i5 (.str u3)), .int .i64 (Go.IntKind.wrap .i64 (x1 + 1)), .int .i64 (Go.IntKind.wrap .i64 (x2 - 1))]
   else some [.list 1 l0]) := by kernel_rfl
theorem slices_Reverse_string_string_eq (n : Nat) (l0 : List FV) : evF En (n + 1) 156 [.list 1 l0] = slices_Reverse_string_string.l1 n [] n [.list 1 l0, .int .i64 0, .int .i64 (Go.IntKind.wrap .i64 ((l0.length : Int) - 1))] := by kernel_rfl
noncomputable def stringslite_Index.l15 (n : Nat) (ms : List Nat) (m : Nat) (L : List FV) : Res := Lp En n 158 [1, 1, 1, 1, 1, 1, 1, 1, 0, 0] ms m L
theorem stringslite_Index.l15_eq (n m : Nat) (s0 : ByteArray) (s1 : ByteArray) (x2 : Int) (x3 : Int) (x4 : Int) (x5 : Int) (x6 : Int) (x7 : Int) : stringslite_Index.l15 n [] (m + 1) [.str s0, .str s1, .int .i64 x2, .int .u8 x3, .int .u8 x4, .int .i64 x5, .int .i64 x6, .int .i64 x7] = 
  (bif (decide (x5 < x6)) then (strAt s0 x5).bind fun n0 => 
    (bif (n0 != x3) then (bd x6 s0.size).bind fun i1 => (bd (Go.IntKind.wrap .i64 (x5 + 1)) i1).bind fun i2 => (evF En n 192 [.str (s0.extract i2 i1), .int .u8 x3]).bind fun r3 => (asInt .i64 (r3[0]?)).bind fun n4 => 
      (bif (decide (n4 < 0)) then some [.int .i64 (-1)]
       else (strAt s0 (Go.IntKind.wrap .i64 ((Go.IntKind.wrap .i64 (x5 + (Go.IntKind.wrap .i64 (n4 + 1)))) + 1))).bind fun n5 => 
        (bif (n5 == x4) then (bd (Go.IntKind.wrap .i64 ((Go.IntKind.wrap .i64 (x5 + (Go.IntKind.wrap .i64 (n4 + 1)))) + x2)) s0.size).bind fun i6 => (bd (Go.IntKind.wrap .i64 (x5 + (Go.IntKind.wrap .i64 (n4 + 1)))) i6).bind fun i7 => 
          (bif ((s0.extract i7 i6).toList == s1.toList) then some [.int .i64 (Go.IntKind.wrap .i64 (x5 + (Go.IntKind.wrap .i64 (n4 + 1))))]
           else none)
         else none))
     else (strAt s0 (Go.IntKind.wrap .i64 (x5 + 1))).bind fun n8 => 
      (bif (n8 == x4) then (bd (Go.IntKind.wrap .i64 (x5 + x2)) s0.size).bind fun i9 => (bd x5 i9).bind fun i10 => 
        (bif ((s0.extract i10 i9).toList == s1.toList) then some [.int .i64 x5]
         else none)
       else none))
   else some [.int .i64 (-1)]) := by kernel_rfl
theorem stringslite_Index_eq (n : Nat) (s0 : ByteArray) (s1 : ByteArray) : evF En (n + 1) 158 [.str s0, .str s1] = 
  (bif ((s1.size : Int) == 0) then some [.int .i64 0]
   else 
    (bif (s1.toList == s0.toList) then some [.int .i64 0]
     else 
      (bif ((s1.size : Int) == 1) then (strAt s1 0).bind fun n0 => (evF En n 192 [.str s0, .int .u8 n0]).bind fun r1 => (asInt .i64 (r1[0]?)).bind fun n2 => some [.int .i64 n2]
       else 
        (bif (decide ((s1.size : Int) ≥ (s0.size : Int))) then some [.int .i64 (-1)]
         else none)))) := by kernel_rfl

end Rf
end

section
/- Made by a program of this work: what each function comes to, one step of it; by the kernel. -/
set_option linter.unusedVariables false
set_option maxRecDepth 100000
set_option maxHeartbeats 4000000
namespace Rf
open Go

noncomputable def nat_Nat_Add.l6 (n : Nat) (ms : List Nat) (m : Nat) (L : List FV) : Res := Lp En n 112 [1, 1, 1, 1, 0, 1, 0] ms m L
theorem nat_Nat_Add.l6_eq (n m : Nat) (l0 : List FV) (l1 : List FV) (l2 : List FV) (l3 : List FV) (x4 : Int) (l5 : List FV) (x6 : Int) (x7 : Int) : nat_Nat_Add.l6 n [] (m + 1) [.list 1 l0, .list 1 l1, .list 1 l2, .list 1 l3, .int .u64 x4, .list 1 l5, .int .i64 x6, .int .i64 x7] = 
  (bif (decide (x7 < x6)) then (ix x7 l5.length).bind fun i0 => (asInt .u32 (at' l5 i0 0)).bind fun n1 => 
    (bif (decide (x7 < (l1.length : Int))) then (ix x7 l1.length).bind fun i2 => (asInt .u32 (at' l1 i2 0)).bind fun n3 => (ix x7 l3.length).bind fun i4 => nat_Nat_Add.l6 n [] m [.list 1 l0, .list 1 l1, .list 1 l2, .list 1 (List.set l3 i4 (.int .u32 (Go.IntKind.wrap .u32 (Go.IntKind.wrap .u64 ((Go.IntKind.wrap .u64 (x4 + (Go.IntKind.wrap .u64 n1))) + (Go.IntKind.wrap .u64 n3)))))), .int .u64 (shI false .u64 (Go.IntKind.wrap .u64 ((Go.IntKind.wrap .u64 (x4 + (Go.IntKind.wrap .u64 n1))) + (Go.IntKind.wrap .u64 n3))) 32), .list 1 l5, .int .i64 x6, .int .i64 (Go.IntKind.wrap .i64 (x7 + 1))]
     else (ix x7 l3.length).bind fun i5 => nat_Nat_Add.l6 n [] m [.list 1 l0, .list 1 l1, .list 1 l2, .list 1 (List.set l3 i5 (.int .u32 (Go.IntKind.wrap .u32 (Go.IntKind.wrap .u64 (x4 + (Go.IntKind.wrap .u64 n1)))))), .int .u64 (shI false .u64 (Go.IntKind.wrap .u64 (x4 + (Go.IntKind.wrap .u64 n1))) 32), .list 1 l5, .int .i64 x6, .int .i64 (Go.IntKind.wrap .i64 (x7 + 1))])
   else (ix (l0.length : Int) l3.length).bind fun i6 => (evF En n 147 [.list 1 (List.set l3 i6 (.int .u32 (Go.IntKind.wrap .u32 x4)))]).bind fun r7 => (asLst 1 (r7[0]?)).bind fun v8 => some [.list 1 v8]) := by kernel_rfl
theorem nat_Nat_Add_eq (n : Nat) (l0 : List FV) (l1 : List FV) : evF En (n + 1) 112 [.list 1 l0, .list 1 l1] = 
  (bif (decide ((l0.length : Int) < (l1.length : Int))) then (mkLen 4 (Go.IntKind.wrap .i64 ((l1.length : Int) + 1))).bind fun i0 => (bd (Go.IntKind.wrap .i64 ((l1.length : Int) + 1)) i0).bind fun i1 => nat_Nat_Add.l6 n [] n [.list 1 l1, .list 1 l0, .list 1 [], .list 1 (List.replicate i1 (.int .u32 0 : FV)), .int .u64 0, .list 1 l1, .int .i64 (l1.length : Int), .int .i64 0]
   else (mkLen 4 (Go.IntKind.wrap .i64 ((l0.length : Int) + 1))).bind fun i2 => (bd (Go.IntKind.wrap .i64 ((l0.length : Int) + 1)) i2).bind fun i3 => nat_Nat_Add.l6 n [] n [.list 1 l0, .list 1 l1, .list 1 [], .list 1 (List.replicate i3 (.int .u32 0 : FV)), .int .u64 0, .list 1 l0, .int .i64 (l0.length : Int), .int .i64 0]) := by kernel_rfl
noncomputable def nat_Nat_Sub.l6 (n : Nat) (ms : List Nat) (m : Nat) (L : List FV) : Res := Lp En n 113 [1, 1, 1, 1, 0, 1, 0] ms m L
theorem nat_Nat_Sub.l6_eq (n m : Nat) (l0 : List FV) (l1 : List FV) (l2 : List FV) (x3 : Int) (x4 : Int) (x5 : Int) : nat_Nat_Sub.l6 n [] (m + 1) [.list 1 l0, .list 1 l1, .list 1 l2, .int .u32 x3, .int .i64 x4, .int .i64 x5] = 
  (bif (decide (x5 < x4)) then 
    (bif (decide (x5 < (l0.length : Int))) then (ix x5 l0.length).bind fun i0 => (asInt .u32 (at' l0 i0 0)).bind fun n1 => (ix x5 l2.length).bind fun i2 => (asInt .u32 (at' l2 i2 0)).bind fun n3 => (evF En n 149 [.int .u32 n3, .int .u32 n1, .int .u32 x3]).bind fun r4 => (asInt .u32 (r4[0]?)).bind fun n5 => (asInt .u32 (r4[1]?)).bind fun n6 => (ix x5 l2.length).bind fun i7 => nat_Nat_Sub.l6 n [] m [.list 1 l0, .list 1 l1, .list 1 (List.set l2 i7 (.int .u32 n5)), .int .u32 n6, .int .i64 x4, .int .i64 (Go.IntKind.wrap .i64 (x5 + 1))]
     else (ix x5 l2.length).bind fun i8 => (asInt .u32 (at' l2 i8 0)).bind fun n9 => (evF En n 149 [.int .u32 n9, .int .u32 0, .int .u32 x3]).bind fun r10 => (asInt .u32 (r10[0]?)).bind fun n11 => (asInt .u32 (r10[1]?)).bind fun n12 => (ix x5 l2.length).bind fun i13 => nat_Nat_Sub.l6 n [] m [.list 1 l0, .list 1 l1, .list 1 (List.set l2 i13 (.int .u32 n11)), .int .u32 n12, .int .i64 x4, .int .i64 (Go.IntKind.wrap .i64 (x5 + 1))])
   else (evF En n 147 [.list 1 l2]).bind fun r14 => (asLst 1 (r14[0]?)).bind fun v15 => some [.list 1 v15, .int .i64 0]) := by kernel_rfl
theorem nat_Nat_Sub_eq (n : Nat) (l0 : List FV) (l1 : List FV) : evF En (n + 1) 113 [.list 1 l0, .list 1 l1] = (evF En n 129 [.list 1 l0, .list 1 l1]).bind fun r0 => (asInt .i64 (r0[0]?)).bind fun n1 => 
  (bif (decide (n1 < 0)) then some [.list 1 [], .int .i64 11]
   else (evF En n 148 [.list 1 l0]).bind fun r2 => (asLst 1 (r2[0]?)).bind fun v3 => nat_Nat_Sub.l6 n [] n [.list 1 l1, .list 1 [], .list 1 v3, .int .u32 0, .int .i64 (v3.length : Int), .int .i64 0]) := by kernel_rfl
noncomputable def nat_Nat_Text.l4 (n : Nat) (ms : List Nat) (m : Nat) (L : List FV) : Res := Lp En n 117 [1, 1, 1, 0, 0] ms m L
theorem nat_Nat_Text.l4_eq (n m : Nat) (l0 : List FV) (l1 : List FV) : nat_Nat_Text.l4 n [] (m + 1) [.list 1 l0, .list 1 l1] = 
  (bif (decide ((l0.length : Int) > 0)) then (evF En n 153 [.list 1 l0, .int .u32 1000000000]).bind fun r0 => (asLst 1 (r0[0]?)).bind fun v1 => (asInt .u32 (r0[1]?)).bind fun n2 => (evF En n 154 [.int .u64 (Go.IntKind.wrap .u64 n2), .int .i64 10]).bind fun r3 => (asStr (r3[0]?)).bind fun u4 => 
    (bif (decide ((v1.length : Int) > 0)) then (evF En n 155 [.str { data := #[48] }, .int .i64 (Go.IntKind.wrap .i64 (9 - (u4.size : Int)))]).bind fun r5 => (asStr (r5[0]?)).bind fun u6 => 
      (bif (decide (((u6.size + u4.size) : Int) > 9223372036854775807)) then none
       else 
        (bif (Nat.ble (l1.length + (elemsOf 1 (.str { data := #[] }) [(0, (.str (u6 ++ u4)))]).length) 8796093022208) then nat_Nat_Text.l4 n [] m [.list 1 v1, .list 1 (l1 ++ (elemsOf 1 (.str { data := #[] }) [(0, (.str (u6 ++ u4)))]))]
         else none))
     else 
      (bif (Nat.ble (l1.length + (elemsOf 1 (.str { data := #[] }) [(0, (.str u4))]).length) 8796093022208) then nat_Nat_Text.l4 n [] m [.list 1 v1, .list 1 (l1 ++ (elemsOf 1 (.str { data := #[] }) [(0, (.str u4))]))]
       else none))
   else (evF En n 156 [.list 1 l1]).bind fun r7 => (asLst 1 (r7[0]?)).bind fun v8 => (evF En n 157 [.list 1 v8, .str { data := #[] }]).bind fun r9 => (asStr (r9[0]?)).bind fun u10 => some [.str u10]) := by kernel_rfl
theorem nat_Nat_Text_eq (n : Nat) (l0 : List FV) : evF En (n + 1) 117 [.list 1 l0] = 
  (bif ((l0.length : Int) == 0) then some [.str { data := #[48] }]
   else nat_Nat_Text.l4 n [] n [.list 1 l0, .list 1 []]) := by kernel_rfl
noncomputable def nat_Parse.l4 (n : Nat) (ms : List Nat) (m : Nat) (L : List FV) : Res := Lp En n 122 [1, 1, 1, 0, 0] ms m L
noncomputable def nat_Parse.l8 (n : Nat) (ms : List Nat) (m : Nat) (L : List FV) : Res := Lp En n 122 [1, 1, 1, 0, 0, 0, 1, 0, 1, 1, 0, 1, 0] ms m L
theorem nat_Parse.l4_eq (n m : Nat) (l0 : List FV) (l1 : List FV) (s2 : ByteArray) : nat_Parse.l4 n [] (m + 1) [.list 1 l0, .list 1 l1, .str s2] = 
  (bif (!(s2.toList == ({ data := #[] } : ByteArray).toList)) then nat_Parse.l8 n [m] n [.list 1 l0, .list 1 l1, .str s2, .int .i64 (Go.IntKind.wrap .i64 ((Int.tmod (Go.IntKind.wrap .i64 ((s2.size : Int) - 1)) 9) + 1)), .int .u32 1, .int .i64 (Go.IntKind.wrap .i64 ((Int.tmod (Go.IntKind.wrap .i64 ((s2.size : Int) - 1)) 9) + 1)), .int .i64 0]
   else some [.list 1 l1, .int .i64 0]) := by kernel_rfl
theorem nat_Parse.l8_eq (n m m0 : Nat) (l0 : List FV) (l1 : List FV) (s2 : ByteArray) (x3 : Int) (x4 : Int) (x5 : Int) (x6 : Int) : nat_Parse.l8 n [m0] (m + 1) [.list 1 l0, .list 1 l1, .str s2, .int .i64 x3, .int .u32 x4, .int .i64 x5, .int .i64 x6] = 
  (bif (decide (x6 < x5)) then nat_Parse.l8 n [m0] m [.list 1 l0, .list 1 l1, .str s2, .int .i64 x3, .int .u32 (Go.IntKind.wrap .u32 (x4 * 10)), .int .i64 x5, .int .i64 (Go.IntKind.wrap .i64 (x6 + 1))]
   else (bd x3 s2.size).bind fun i0 => (evF En n 161 [.str (s2.extract 0 i0), .int .i64 10, .int .i64 32]).bind fun r1 => (asInt .u64 (r1[0]?)).bind fun n2 => (evF En n 162 [.list 1 l1, .int .u32 x4, .int .u32 (Go.IntKind.wrap .u32 n2)]).bind fun r3 => (asLst 1 (r3[0]?)).bind fun v4 => (bd x3 s2.size).bind fun i5 => nat_Parse.l4 n [] m0 [.list 1 l0, .list 1 v4, .str (s2.extract i5 s2.size)]) := by kernel_rfl
theorem nat_Parse_eq (n : Nat) (s0 : ByteArray) : evF En (n + 1) 122 [.str s0] = 
  (bif (s0.toList == ({ data := #[] } : ByteArray).toList) then some [.list 1 [], .int .i64 10]
   else (strAt s0 0).bind fun n0 => 
    (bif (n0 == 48) then 
      (bif (!(s0.toList == ({ data := #[48] } : ByteArray).toList)) then some [.list 1 [], .int .i64 10]
       else (evF En n 160 [.str s0, .str { data := #[48, 49, 50, 51, 52, 53, 54, 55, 56, 57] }]).bind fun r1 => (asStr (r1[0]?)).bind fun u2 => 
        (bif (!(u2.toList == ({ data := #[] } : ByteArray).toList)) then some [.list 1 [], .int .i64 10]
         else nat_Parse.l4 n [] n [.list 1 [], .list 1 [], .str s0]))
     else (evF En n 160 [.str s0, .str { data := #[48, 49, 50, 51, 52, 53, 54, 55, 56, 57] }]).bind fun r3 => (asStr (r3[0]?)).bind fun u4 => 
      (bif (!(u4.toList == ({ data := #[] } : ByteArray).toList)) then some [.list 1 [], .int .i64 10]
       else nat_Parse.l4 n [] n [.list 1 [], .list 1 [], .str s0]))) := by kernel_rfl
theorem nat_Nat_Bits_eq (n : Nat) (l0 : List FV) : evF En (n + 1) 123 [.list 1 l0] = 
  (bif ((l0.length : Int) == 0) then some [.int .i64 0]
   else (ix (Go.IntKind.wrap .i64 ((l0.length : Int) - 1)) l0.length).bind fun i0 => (asInt .u32 (at' l0 i0 0)).bind fun n1 => (evF En n 163 [.int .u32 n1]).bind fun r2 => (asInt .i64 (r2[0]?)).bind fun n3 => some [.int .i64 (Go.IntKind.wrap .i64 ((Go.IntKind.wrap .i64 (32 * (Go.IntKind.wrap .i64 ((l0.length : Int) - 1)))) + n3))]) := by kernel_rfl
noncomputable def nat_Nat_Gcd.l1 (n : Nat) (ms : List Nat) (m : Nat) (L : List FV) : Res := Lp En n 125 [1, 0, 0] ms m L
noncomputable def nat_Nat_Gcd.l4 (n : Nat) (ms : List Nat) (m : Nat) (L : List FV) : Res := Lp En n 125 [1, 0, 0, 0, 1, 0, 0, 1, 0, 1, 0, 0] ms m L
theorem nat_Nat_Gcd.l1_eq (n m : Nat) (l0 : List FV) (l1 : List FV) (l2 : List FV) : nat_Nat_Gcd.l1 n [] (m + 1) [.list 1 l0, .list 1 l1, .list 1 l2] = 
  (bif (decide ((l1.length : Int) > 0)) then 
    (bif (decide ((l0.length : Int) ≤ 2)) then 
      (bif (decide ((l1.length : Int) ≤ 2)) then (evF En n 164 [.list 1 l0]).bind fun r0 => (asInt .u64 (r0[0]?)).bind fun n1 => (evF En n 164 [.list 1 l1]).bind fun r2 => (asInt .u64 (r2[0]?)).bind fun n3 => nat_Nat_Gcd.l4 n [m] n [.list 1 l2, .int .u64 n1, .int .u64 n3]
       else (evF En n 165 [.list 1 l0, .list 1 l1]).bind fun r4 => (asLst 1 (r4[0]?)).bind fun v5 => (asLst 1 (r4[1]?)).bind fun v6 => (asInt .i64 (r4[2]?)).bind fun n7 => nat_Nat_Gcd.l1 n [] m [.list 1 l1, .list 1 v6, .list 1 l2])
     else (evF En n 165 [.list 1 l0, .list 1 l1]).bind fun r8 => (asLst 1 (r8[0]?)).bind fun v9 => (asLst 1 (r8[1]?)).bind fun v10 => (asInt .i64 (r8[2]?)).bind fun n11 => nat_Nat_Gcd.l1 n [] m [.list 1 l1, .list 1 v10, .list 1 l2])
   else some [.list 1 l0]) := by kernel_rfl
theorem nat_Nat_Gcd.l4_eq (n m m0 : Nat) (l0 : List FV) (x1 : Int) (x2 : Int) : nat_Nat_Gcd.l4 n [m0] (m + 1) [.list 1 l0, .int .u64 x1, .int .u64 x2] = 
  (bif (decide (x2 > 0)) then 
    (bif (decide (x2 = 0)) then none
     else nat_Nat_Gcd.l4 n [m0] m [.list 1 l0, .int .u64 x2, .int .u64 (Int.tmod x1 x2)])
   else (evF En n 127 [.int .u64 x1]).bind fun r0 => (asLst 1 (r0[0]?)).bind fun v1 => some [.list 1 v1]) := by kernel_rfl
theorem nat_Nat_Gcd_eq (n : Nat) (l0 : List FV) (l1 : List FV) : evF En (n + 1) 125 [.list 1 l0, .list 1 l1] = nat_Nat_Gcd.l1 n [] n [.list 1 l0, .list 1 l1, .list 1 []] := by kernel_rfl
theorem nat_Of_eq (n : Nat) (x0 : Int) : evF En (n + 1) 127 [.int .u64 x0] = (evF En n 147 [.list 1 (elemsOf 2 (.int .u32 0) [(0, (.int .u32 (Go.IntKind.wrap .u32 x0))), (1, (.int .u32 (Go.IntKind.wrap .u32 (shI false .u64 x0 32))))])]).bind fun r0 => (asLst 1 (r0[0]?)).bind fun v1 => some [.list 1 v1] := by kernel_rfl
noncomputable def nat_Nat_Mul.l3 (n : Nat) (ms : List Nat) (m : Nat) (L : List FV) : Res := Lp En n 128 [1, 1, 0, 1, 0] ms m L
noncomputable def nat_Nat_Mul.l7 (n : Nat) (ms : List Nat) (m : Nat) (L : List FV) : Res := Lp En n 128 [1, 1, 0, 1, 0, 0, 1, 1, 0, 0, 1, 1, 0, 1, 0] ms m L
theorem nat_Nat_Mul.l3_eq (n m : Nat) (l0 : List FV) (l1 : List FV) (l2 : List FV) (l3 : List FV) (x4 : Int) (x5 : Int) : nat_Nat_Mul.l3 n [] (m + 1) [.list 1 l0, .list 1 l1, .list 1 l2, .list 1 l3, .int .i64 x4, .int .i64 x5] = 
  (bif (decide (x5 < x4)) then (ix x5 l3.length).bind fun i0 => (asInt .u32 (at' l3 i0 0)).bind fun n1 => nat_Nat_Mul.l7 n [m] n [.list 1 l0, .list 1 l1, .list 1 l2, .int .i64 x5, .int .u32 n1, .int .u64 0, .list 1 l3, .int .i64 x4, .int .i64 x5, .list 1 l0, .int .i64 (l0.length : Int), .int .i64 0]
   else (evF En n 147 [.list 1 l2]).bind fun r2 => (asLst 1 (r2[0]?)).bind fun v3 => some [.list 1 v3]) := by kernel_rfl
theorem nat_Nat_Mul.l7_eq (n m m0 : Nat) (l0 : List FV) (l1 : List FV) (l2 : List FV) (x3 : Int) (x4 : Int) (x5 : Int) (l6 : List FV) (x7 : Int) (x8 : Int) (l9 : List FV) (x10 : Int) (x11 : Int) : nat_Nat_Mul.l7 n [m0] (m + 1) [.list 1 l0, .list 1 l1, .list 1 l2, .int .i64 x3, .int .u32 x4, .int .u64 x5, .list 1 l6, .int .i64 x7, .int .i64 x8, .list 1 l9, .int .i64 x10, .int .i64 x11] = 
  (bif (decide (x11 < x10)) then (ix x11 l9.length).bind fun i0 => (asInt .u32 (at' l9 i0 0)).bind fun n1 => (ix (Go.IntKind.wrap .i64 (x3 + x11)) l2.length).bind fun i2 => (asInt .u32 (at' l2 i2 0)).bind fun n3 => (ix (Go.IntKind.wrap .i64 (x3 + x11)) l2.length).bind fun i4 => nat_Nat_Mul.l7 n [m0] m [.list 1 l0, .list 1 l1, .list 1 (List.set l2 i4 (.int .u32 (Go.IntKind.wrap .u32 (Go.IntKind.wrap .u64 (x5 + (Go.IntKind.wrap .u64 ((Go.IntKind.wrap .u64 n3) + (Go.IntKind.wrap .u64 ((Go.IntKind.wrap .u64 x4) * (Go.IntKind.wrap .u64 n1)))))))))), .int .i64 x3, .int .u32 x4, .int .u64 (shI false .u64 (Go.IntKind.wrap .u64 (x5 + (Go.IntKind.wrap .u64 ((Go.IntKind.wrap .u64 n3) + (Go.IntKind.wrap .u64 ((Go.IntKind.wrap .u64 x4) * (Go.IntKind.wrap .u64 n1))))))) 32), .list 1 l6, .int .i64 x7, .int .i64 x8, .list 1 l9, .int .i64 x10, .int .i64 (Go.IntKind.wrap .i64 (x11 + 1))]
   else (ix (Go.IntKind.wrap .i64 (x3 + (l0.length : Int))) l2.length).bind fun i5 => nat_Nat_Mul.l3 n [] m0 [.list 1 l0, .list 1 l1, .list 1 (List.set l2 i5 (.int .u32 (Go.IntKind.wrap .u32 x5))), .list 1 l6, .int .i64 x7, .int .i64 (Go.IntKind.wrap .i64 (x8 + 1))]) := by kernel_rfl
theorem nat_Nat_Mul_eq (n : Nat) (l0 : List FV) (l1 : List FV) : evF En (n + 1) 128 [.list 1 l0, .list 1 l1] = (mkLen 4 (Go.IntKind.wrap .i64 ((l0.length : Int) + (l1.length : Int)))).bind fun i0 => (bd (Go.IntKind.wrap .i64 ((l0.length : Int) + (l1.length : Int))) i0).bind fun i1 => nat_Nat_Mul.l3 n [] n [.list 1 l1, .list 1 [], .list 1 (List.replicate i1 (.int .u32 0 : FV)), .list 1 l0, .int .i64 (l0.length : Int), .int .i64 0] := by kernel_rfl
noncomputable def nat_Nat_Cmp.l6 (n : Nat) (ms : List Nat) (m : Nat) (L : List FV) : Res := Lp En n 129 [1, 1, 0, 1, 0] ms m L
theorem nat_Nat_Cmp.l6_eq (n m : Nat) (l0 : List FV) (l1 : List FV) (x2 : Int) : nat_Nat_Cmp.l6 n [] (m + 1) [.list 1 l0, .list 1 l1, .int .i64 x2] = 
  (bif (decide (x2 ≥ 0)) then (ix x2 l0.length).bind fun i0 => (asInt .u32 (at' l0 i0 0)).bind fun n1 => (ix x2 l1.length).bind fun i2 => (asInt .u32 (at' l1 i2 0)).bind fun n3 => 
    (bif (n1 != n3) then (ix x2 l0.length).bind fun i4 => (asInt .u32 (at' l0 i4 0)).bind fun n5 => (ix x2 l1.length).bind fun i6 => (asInt .u32 (at' l1 i6 0)).bind fun n7 => 
      (bif (decide (n5 < n7)) then some [.int .i64 (-1)]
       else some [.int .i64 1])
     else nat_Nat_Cmp.l6 n [] m [.list 1 l0, .list 1 l1, .int .i64 (Go.IntKind.wrap .i64 (x2 - 1))])
   else some [.int .i64 0]) := by kernel_rfl
theorem nat_Nat_Cmp_eq (n : Nat) (l0 : List FV) (l1 : List FV) : evF En (n + 1) 129 [.list 1 l0, .list 1 l1] = 
  (bif (decide ((l0.length : Int) < (l1.length : Int))) then some [.int .i64 (-1)]
   else 
    (bif (decide ((l0.length : Int) > (l1.length : Int))) then some [.int .i64 1]
     else nat_Nat_Cmp.l6 n [] n [.list 1 l0, .list 1 l1, .int .i64 (Go.IntKind.wrap .i64 ((l0.length : Int) - 1))])) := by kernel_rfl
noncomputable def nat_trimmed.l1 (n : Nat) (ms : List Nat) (m : Nat) (L : List FV) : Res := Lp En n 147 [1, 0, 0] ms m L
theorem nat_trimmed.l1_eq (n m : Nat) (l0 : List FV) (l1 : List FV) : nat_trimmed.l1 n [] (m + 1) [.list 1 l0, .list 1 l1] = 
  (bif (decide ((l1.length : Int) > 0)) then (ix (Go.IntKind.wrap .i64 ((l1.length : Int) - 1)) l1.length).bind fun i0 => (asInt .u32 (at' l1 i0 0)).bind fun n1 => 
    (bif (n1 == 0) then (bd (Go.IntKind.wrap .i64 ((l1.length : Int) - 1)) l1.length).bind fun i2 => nat_trimmed.l1 n [] m [.list 1 l0, .list 1 (List.drop 0 (List.take i2 l1))]
     else some [.list 1 l1])
   else some [.list 1 l1]) := by kernel_rfl
theorem nat_trimmed_eq (n : Nat) (l0 : List FV) : evF En (n + 1) 147 [.list 1 l0] = nat_trimmed.l1 n [] n [.list 1 [], .list 1 l0] := by kernel_rfl
theorem bits_Sub32_eq (n : Nat) (x0 : Int) (x1 : Int) (x2 : Int) : evF En (n + 1) 149 [.int .u32 x0, .int .u32 x1, .int .u32 x2] = some [.int .u32 (Go.IntKind.wrap .u32 ((Go.IntKind.wrap .u32 (x0 - x1)) - x2)), .int .u32 (shI false .u32 (bitI .or .u32 (bitI .and .u32 (bitI .xor .u32 4294967295 x0) x1) (bitI .and .u32 (bitI .xor .u32 4294967295 (bitI .xor .u32 x0 x1)) (Go.IntKind.wrap .u32 ((Go.IntKind.wrap .u32 (x0 - x1)) - x2)))) 31)] := by kernel_rfl
noncomputable def nat_Nat_parted.l4 (n : Nat) (ms : List Nat) (m : Nat) (L : List FV) : Res := Lp En n 153 [1, 1, 1, 0, 1, 0] ms m L
theorem nat_Nat_parted.l4_eq (n m : Nat) (l0 : List FV) (l1 : List FV) (x2 : Int) (l3 : List FV) (x4 : Int) (x5 : Int) : nat_Nat_parted.l4 n [] (m + 1) [.list 1 l0, .list 1 l1, .int .u32 x2, .list 1 l3, .int .u64 x4, .int .i64 x5] = 
  (bif (decide (x5 ≥ 0)) then (ix x5 l0.length).bind fun i0 => (asInt .u32 (at' l0 i0 0)).bind fun n1 => 
    (bif (decide ((Go.IntKind.wrap .u64 x2) = 0)) then none
     else (ix x5 l3.length).bind fun i2 => 
      (bif (decide ((Go.IntKind.wrap .u64 x2) = 0)) then none
       else nat_Nat_parted.l4 n [] m [.list 1 l0, .list 1 l1, .int .u32 x2, .list 1 (List.set l3 i2 (.int .u32 (Go.IntKind.wrap .u32 (Go.IntKind.wrap .u64 (Int.tdiv (bitI .or .u64 (shI true .u64 x4 32) (Go.IntKind.wrap .u64 n1)) (Go.IntKind.wrap .u64 x2)))))), .int .u64 (Int.tmod (bitI .or .u64 (shI true .u64 x4 32) (Go.IntKind.wrap .u64 n1)) (Go.IntKind.wrap .u64 x2)), .int .i64 (Go.IntKind.wrap .i64 (x5 - 1))]))
   else (evF En n 147 [.list 1 l3]).bind fun r3 => (asLst 1 (r3[0]?)).bind fun v4 => some [.list 1 v4, .int .u32 (Go.IntKind.wrap .u32 x4)]) := by kernel_rfl
theorem nat_Nat_parted_eq (n : Nat) (l0 : List FV) (x1 : Int) : evF En (n + 1) 153 [.list 1 l0, .int .u32 x1] = (mkLen 4 (l0.length : Int)).bind fun i0 => (bd (l0.length : Int) i0).bind fun i1 => nat_Nat_parted.l4 n [] n [.list 1 l0, .list 1 [], .int .u32 x1, .list 1 (List.replicate i1 (.int .u32 0 : FV)), .int .u64 0, .int .i64 (Go.IntKind.wrap .i64 ((l0.length : Int) - 1))] := by kernel_rfl
noncomputable def nat_Nat_scaled.l4 (n : Nat) (ms : List Nat) (m : Nat) (L : List FV) : Res := Lp En n 162 [1, 1, 1, 0, 1, 0] ms m L
theorem nat_Nat_scaled.l4_eq (n m : Nat) (l0 : List FV) (l1 : List FV) (x2 : Int) (l3 : List FV) (x4 : Int) (l5 : List FV) (x6 : Int) (x7 : Int) : nat_Nat_scaled.l4 n [] (m + 1) [.list 1 l0, .list 1 l1, .int .u32 x2, .list 1 l3, .int .u64 x4, .list 1 l5, .int .i64 x6, .int .i64 x7] = 
  (bif (decide (x7 < x6)) then (ix x7 l5.length).bind fun i0 => (asInt .u32 (at' l5 i0 0)).bind fun n1 => (ix x7 l3.length).bind fun i2 => nat_Nat_scaled.l4 n [] m [.list 1 l0, .list 1 l1, .int .u32 x2, .list 1 (List.set l3 i2 (.int .u32 (Go.IntKind.wrap .u32 (Go.IntKind.wrap .u64 (x4 + (Go.IntKind.wrap .u64 ((Go.IntKind.wrap .u64 n1) * (Go.IntKind.wrap .u64 x2)))))))), .int .u64 (shI false .u64 (Go.IntKind.wrap .u64 (x4 + (Go.IntKind.wrap .u64 ((Go.IntKind.wrap .u64 n1) * (Go.IntKind.wrap .u64 x2))))) 32), .list 1 l5, .int .i64 x6, .int .i64 (Go.IntKind.wrap .i64 (x7 + 1))]
   else (ix (l0.length : Int) l3.length).bind fun i3 => (evF En n 147 [.list 1 (List.set l3 i3 (.int .u32 (Go.IntKind.wrap .u32 x4)))]).bind fun r4 => (asLst 1 (r4[0]?)).bind fun v5 => some [.list 1 v5]) := by kernel_rfl
theorem nat_Nat_scaled_eq (n : Nat) (l0 : List FV) (x1 : Int) (x2 : Int) : evF En (n + 1) 162 [.list 1 l0, .int .u32 x1, .int .u32 x2] = (mkLen 4 (Go.IntKind.wrap .i64 ((l0.length : Int) + 1))).bind fun i0 => (bd (Go.IntKind.wrap .i64 ((l0.length : Int) + 1)) i0).bind fun i1 => nat_Nat_scaled.l4 n [] n [.list 1 l0, .list 1 [], .int .u32 x1, .list 1 (List.replicate i1 (.int .u32 0 : FV)), .int .u64 (Go.IntKind.wrap .u64 x2), .list 1 l0, .int .i64 (l0.length : Int), .int .i64 0] := by kernel_rfl
theorem bits_Len32_eq (n : Nat) (x0 : Int) : evF En (n + 1) 163 [.int .u32 x0] = 
  (bif (decide (x0 ≥ 65536)) then 
    (bif (decide ((shI false .u32 x0 16) ≥ 256)) then (strAt { data := (([0, 1, 2, 2, 3, 3, 3, 3, 4, 4, 4, 4, 4, 4, 4, 4, 5, 5, 5, 5, 5, 5, 5, 5, 5, 5, 5, 5, 5, 5, 5, 5, 6, 6, 6, 6, 6, 6, 6, 6, 6, 6, 6, 6, 6, 6, 6, 6, 6, 6, 6, 6, 6, 6, 6, 6, 6, 6, 6, 6, 6, 6, 6, 6].append [7, 7, 7, 7, 7, 7, 7, 7, 7, 7, 7, 7, 7, 7, 7, 7, 7, 7, 7, 7, 7, 7, 7, 7, 7, 7, 7, 7, 7, 7, 7, 7, 7, 7, 7, 7, 7, 7, 7, 7, 7, 7, 7, 7, 7, 7, 7, 7, 7, 7, 7, 7, 7, 7, 7, 7, 7, 7, 7, 7, 7, 7, 7, 7]).append ([8, 8, 8, 8, 8, 8, 8, 8, 8, 8, 8, 8, 8, 8, 8, 8, 8, 8, 8, 8, 8, 8, 8, 8, 8, 8, 8, 8, 8, 8, 8, 8, 8, 8, 8, 8, 8, 8, 8, 8, 8, 8, 8, 8, 8, 8, 8, 8, 8, 8, 8, 8, 8, 8, 8, 8, 8, 8, 8, 8, 8, 8, 8, 8].append [8, 8, 8, 8, 8, 8, 8, 8, 8, 8, 8, 8, 8, 8, 8, 8, 8, 8, 8, 8, 8, 8, 8, 8, 8, 8, 8, 8, 8, 8, 8, 8, 8, 8, 8, 8, 8, 8, 8, 8, 8, 8, 8, 8, 8, 8, 8, 8, 8, 8, 8, 8, 8, 8, 8, 8, 8, 8, 8, 8, 8, 8, 8, 8])).toArray } (Go.IntKind.wrap .u8 (shI false .u32 (shI false .u32 x0 16) 8))).bind fun n0 => some [.int .i64 (Go.IntKind.wrap .i64 (24 + (Go.IntKind.wrap .i64 n0)))]
     else (strAt { data := (([0, 1, 2, 2, 3, 3, 3, 3, 4, 4, 4, 4, 4, 4, 4, 4, 5, 5, 5, 5, 5, 5, 5, 5, 5, 5, 5, 5, 5, 5, 5, 5, 6, 6, 6, 6, 6, 6, 6, 6, 6, 6, 6, 6, 6, 6, 6, 6, 6, 6, 6, 6, 6, 6, 6, 6, 6, 6, 6, 6, 6, 6, 6, 6].append [7, 7, 7, 7, 7, 7, 7, 7, 7, 7, 7, 7, 7, 7, 7, 7, 7, 7, 7, 7, 7, 7, 7, 7, 7, 7, 7, 7, 7, 7, 7, 7, 7, 7, 7, 7, 7, 7, 7, 7, 7, 7, 7, 7, 7, 7, 7, 7, 7, 7, 7, 7, 7, 7, 7, 7, 7, 7, 7, 7, 7, 7, 7, 7]).append ([8, 8, 8, 8, 8, 8, 8, 8, 8, 8, 8, 8, 8, 8, 8, 8, 8, 8, 8, 8, 8, 8, 8, 8, 8, 8, 8, 8, 8, 8, 8, 8, 8, 8, 8, 8, 8, 8, 8, 8, 8, 8, 8, 8, 8, 8, 8, 8, 8, 8, 8, 8, 8, 8, 8, 8, 8, 8, 8, 8, 8, 8, 8, 8].append [8, 8, 8, 8, 8, 8, 8, 8, 8, 8, 8, 8, 8, 8, 8, 8, 8, 8, 8, 8, 8, 8, 8, 8, 8, 8, 8, 8, 8, 8, 8, 8, 8, 8, 8, 8, 8, 8, 8, 8, 8, 8, 8, 8, 8, 8, 8, 8, 8, 8, 8, 8, 8, 8, 8, 8, 8, 8, 8, 8, 8, 8, 8, 8])).toArray } (Go.IntKind.wrap .u8 (shI false .u32 x0 16))).bind fun n1 => some [.int .i64 (Go.IntKind.wrap .i64 (16 + (Go.IntKind.wrap .i64 n1)))])
   else 
    (bif (decide (x0 ≥ 256)) then (strAt { data := (([0, 1, 2, 2, 3, 3, 3, 3, 4, 4, 4, 4, 4, 4, 4, 4, 5, 5, 5, 5, 5, 5, 5, 5, 5, 5, 5, 5, 5, 5, 5, 5, 6, 6, 6, 6, 6, 6, 6, 6, 6, 6, 6, 6, 6, 6, 6, 6, 6, 6, 6, 6, 6, 6, 6, 6, 6, 6, 6, 6, 6, 6, 6, 6].append [7, 7, 7, 7, 7, 7, 7, 7, 7, 7, 7, 7, 7, 7, 7, 7, 7, 7, 7, 7, 7, 7, 7, 7, 7, 7, 7, 7, 7, 7, 7, 7, 7, 7, 7, 7, 7, 7, 7, 7, 7, 7, 7, 7, 7, 7, 7, 7, 7, 7, 7, 7, 7, 7, 7, 7, 7, 7, 7, 7, 7, 7, 7, 7]).append ([8, 8, 8, 8, 8, 8, 8, 8, 8, 8, 8, 8, 8, 8, 8, 8, 8, 8, 8, 8, 8, 8, 8, 8, 8, 8, 8, 8, 8, 8, 8, 8, 8, 8, 8, 8, 8, 8, 8, 8, 8, 8, 8, 8, 8, 8, 8, 8, 8, 8, 8, 8, 8, 8, 8, 8, 8, 8, 8, 8, 8, 8, 8, 8].append [8, 8, 8, 8, 8, 8, 8, 8, 8, 8, 8, 8, 8, 8, 8, 8, 8, 8, 8, 8, 8, 8, 8, 8, 8, 8, 8, 8, 8, 8, 8, 8, 8, 8, 8, 8, 8, 8, 8, 8, 8, 8, 8, 8, 8, 8, 8, 8, 8, 8, 8, 8, 8, 8, 8, 8, 8, 8, 8, 8, 8, 8, 8, 8])).toArray } (Go.IntKind.wrap .u8 (shI false .u32 x0 8))).bind fun n2 => some [.int .i64 (Go.IntKind.wrap .i64 (8 + (Go.IntKind.wrap .i64 n2)))]
     else (strAt { data := (([0, 1, 2, 2, 3, 3, 3, 3, 4, 4, 4, 4, 4, 4, 4, 4, 5, 5, 5, 5, 5, 5, 5, 5, 5, 5, 5, 5, 5, 5, 5, 5, 6, 6, 6, 6, 6, 6, 6, 6, 6, 6, 6, 6, 6, 6, 6, 6, 6, 6, 6, 6, 6, 6, 6, 6, 6, 6, 6, 6, 6, 6, 6, 6].append [7, 7, 7, 7, 7, 7, 7, 7, 7, 7, 7, 7, 7, 7, 7, 7, 7, 7, 7, 7, 7, 7, 7, 7, 7, 7, 7, 7, 7, 7, 7, 7, 7, 7, 7, 7, 7, 7, 7, 7, 7, 7, 7, 7, 7, 7, 7, 7, 7, 7, 7, 7, 7, 7, 7, 7, 7, 7, 7, 7, 7, 7, 7, 7]).append ([8, 8, 8, 8, 8, 8, 8, 8, 8, 8, 8, 8, 8, 8, 8, 8, 8, 8, 8, 8, 8, 8, 8, 8, 8, 8, 8, 8, 8, 8, 8, 8, 8, 8, 8, 8, 8, 8, 8, 8, 8, 8, 8, 8, 8, 8, 8, 8, 8, 8, 8, 8, 8, 8, 8, 8, 8, 8, 8, 8, 8, 8, 8, 8].append [8, 8, 8, 8, 8, 8, 8, 8, 8, 8, 8, 8, 8, 8, 8, 8, 8, 8, 8, 8, 8, 8, 8, 8, 8, 8, 8, 8, 8, 8, 8, 8, 8, 8, 8, 8, 8, 8, 8, 8, 8, 8, 8, 8, 8, 8, 8, 8, 8, 8, 8, 8, 8, 8, 8, 8, 8, 8, 8, 8, 8, 8, 8, 8])).toArray } (Go.IntKind.wrap .u8 x0)).bind fun n3 => some [.int .i64 (Go.IntKind.wrap .i64 (0 + (Go.IntKind.wrap .i64 n3)))])) := by kernel_rfl
noncomputable def nat_Nat_word.l3 (n : Nat) (ms : List Nat) (m : Nat) (L : List FV) : Res := Lp En n 164 [1, 1, 0, 1, 0] ms m L
theorem nat_Nat_word.l3_eq (n m : Nat) (x0 : Int) (l1 : List FV) (x2 : Int) (x3 : Int) : nat_Nat_word.l3 n [] (m + 1) [.int .u64 x0, .list 1 l1, .int .i64 x2, .int .i64 x3] = 
  (bif (decide (x3 < x2)) then (ix x3 l1.length).bind fun i0 => (asInt .u32 (at' l1 i0 0)).bind fun n1 => 
    (bif (decide ((Go.IntKind.wrap .u64 (Go.IntKind.wrap .i64 (32 * x3))) < 0)) then none
     else nat_Nat_word.l3 n [] m [.int .u64 (bitI .or .u64 x0 (shI true .u64 (Go.IntKind.wrap .u64 n1) (Go.IntKind.wrap .u64 (Go.IntKind.wrap .i64 (32 * x3))))), .list 1 l1, .int .i64 x2, .int .i64 (Go.IntKind.wrap .i64 (x3 + 1))])
   else some [.int .u64 x0]) := by kernel_rfl
theorem nat_Nat_word_eq (n : Nat) (l0 : List FV) : evF En (n + 1) 164 [.list 1 l0] = nat_Nat_word.l3 n [] n [.int .u64 0, .list 1 l0, .int .i64 (l0.length : Int), .int .i64 0] := by kernel_rfl
noncomputable def nat_Nat_DivMod.l13 (n : Nat) (ms : List Nat) (m : Nat) (L : List FV) : Res := Lp En n 165 [1, 0, 1, 1, 1, 1, 1, 1, 0, 1, 0] ms m L
noncomputable def nat_Nat_DivMod.l18 (n : Nat) (ms : List Nat) (m : Nat) (L : List FV) : Res := Lp En n 165 [1, 0, 1, 1, 1, 1, 1, 1, 0, 1, 0, 0, 1, 0, 0, 1, 1, 0, 1, 0] ms m L
noncomputable def nat_Nat_DivMod.l23 (n : Nat) (ms : List Nat) (m : Nat) (L : List FV) : Res := Lp En n 165 [1, 0, 1, 1, 1, 1, 1, 1, 0, 1, 0, 0, 1, 0, 0, 1, 1, 1, 1, 0, 1, 0] ms m L
noncomputable def nat_Nat_DivMod.l35 (n : Nat) (ms : List Nat) (m : Nat) (L : List FV) : Res := Lp En n 165 [1, 0, 1, 1, 1, 1, 1, 1, 0, 1, 0, 0, 1, 0, 0, 1, 1, 1, 1, 1, 1, 1, 1, 1, 1, 0, 1, 0] ms m L
noncomputable def nat_Nat_DivMod.l42 (n : Nat) (ms : List Nat) (m : Nat) (L : List FV) : Res := Lp En n 165 [1, 0, 1, 1, 1, 1, 1, 1, 1, 1, 0, 1, 0] ms m L
theorem nat_Nat_DivMod.l13_eq (n m : Nat) (l0 : List FV) (l1 : List FV) (x2 : Int) (x3 : Int) (l4 : List FV) (l5 : List FV) (l6 : List FV) (x7 : Int) : nat_Nat_DivMod.l13 n [] (m + 1) [.list 1 l0, .list 1 l1, .int .i64 x2, .int .u64 x3, .list 1 l4, .list 1 l5, .list 1 l6, .int .i64 x7] = 
  (bif (decide (x7 ≥ 0)) then (ix (Go.IntKind.wrap .i64 (x7 + x2)) l5.length).bind fun i0 => (asInt .u32 (at' l5 i0 0)).bind fun n1 => (ix (Go.IntKind.wrap .i64 ((Go.IntKind.wrap .i64 (x7 + x2)) - 1)) l5.length).bind fun i2 => (asInt .u32 (at' l5 i2 0)).bind fun n3 => (ix (Go.IntKind.wrap .i64 (x2 - 1)) l4.length).bind fun i4 => (asInt .u32 (at' l4 i4 0)).bind fun n5 => 
    (bif (decide ((Go.IntKind.wrap .u64 n5) = 0)) then none
     else (ix (Go.IntKind.wrap .i64 (x2 - 1)) l4.length).bind fun i6 => (asInt .u32 (at' l4 i6 0)).bind fun n7 => nat_Nat_DivMod.l18 n [m] n [.list 1 l0, .list 1 l1, .int .i64 x2, .int .u64 x3, .list 1 l4, .list 1 l5, .list 1 l6, .int .i64 x7, .int .u64 (if 4294967295 < (Go.IntKind.wrap .u64 (Int.tdiv (bitI .or .u64 (shI true .u64 (Go.IntKind.wrap .u64 n1) 32) (Go.IntKind.wrap .u64 n3)) (Go.IntKind.wrap .u64 n5))) then 4294967295 else (Go.IntKind.wrap .u64 (Int.tdiv (bitI .or .u64 (shI true .u64 (Go.IntKind.wrap .u64 n1) 32) (Go.IntKind.wrap .u64 n3)) (Go.IntKind.wrap .u64 n5)))), .int .u64 (Go.IntKind.wrap .u64 ((bitI .or .u64 (shI true .u64 (Go.IntKind.wrap .u64 n1) 32) (Go.IntKind.wrap .u64 n3)) - (Go.IntKind.wrap .u64 ((if 4294967295 < (Go.IntKind.wrap .u64 (Int.tdiv (bitI .or .u64 (shI true .u64 (Go.IntKind.wrap .u64 n1) 32) (Go.IntKind.wrap .u64 n3)) (Go.IntKind.wrap .u64 n5))) then 4294967295 else (Go.IntKind.wrap .u64 (Int.tdiv (bitI .or .u64 (shI true .u64 (Go.IntKind.wrap .u64 n1) 32) (Go.IntKind.wrap .u64 n3)) (Go.IntKind.wrap .u64 n5)))) * (Go.IntKind.wrap .u64 n7)))))])
   else (mkLen 4 x2).bind fun i8 => (bd x2 i8).bind fun i9 => nat_Nat_DivMod.l42 n [] n [.list 1 l0, .list 1 l1, .int .u64 x3, .list 1 l5, .list 1 l6, .list 1 (List.replicate i9 (.int .u32 0 : FV)), .int .i64 x2, .int .i64 0]) := by kernel_rfl
theorem nat_Nat_DivMod.l18_eq (n m m0 : Nat) (l0 : List FV) (l1 : List FV) (x2 : Int) (x3 : Int) (l4 : List FV) (l5 : List FV) (l6 : List FV) (x7 : Int) (x8 : Int) (x9 : Int) : nat_Nat_DivMod.l18 n [m0] (m + 1) [.list 1 l0, .list 1 l1, .int .i64 x2, .int .u64 x3, .list 1 l4, .list 1 l5, .list 1 l6, .int .i64 x7, .int .u64 x8, .int .u64 x9] = 
  (bif (decide (x9 < 4294967296)) then (ix (Go.IntKind.wrap .i64 (x2 - 2)) l4.length).bind fun i0 => (asInt .u32 (at' l4 i0 0)).bind fun n1 => (ix (Go.IntKind.wrap .i64 ((Go.IntKind.wrap .i64 (x7 + x2)) - 2)) l5.length).bind fun i2 => (asInt .u32 (at' l5 i2 0)).bind fun n3 => 
    (bif (decide ((Go.IntKind.wrap .u64 (x8 * (Go.IntKind.wrap .u64 n1))) > (bitI .or .u64 (shI true .u64 x9 32) (Go.IntKind.wrap .u64 n3)))) then (ix (Go.IntKind.wrap .i64 (x2 - 1)) l4.length).bind fun i4 => (asInt .u32 (at' l4 i4 0)).bind fun n5 => nat_Nat_DivMod.l18 n [m0] m [.list 1 l0, .list 1 l1, .int .i64 x2, .int .u64 x3, .list 1 l4, .list 1 l5, .list 1 l6, .int .i64 x7, .int .u64 (Go.IntKind.wrap .u64 (x8 - 1)), .int .u64 (Go.IntKind.wrap .u64 (x9 + (Go.IntKind.wrap .u64 n5)))]
     else nat_Nat_DivMod.l23 n [m0] n [.list 1 l0, .list 1 l1, .int .i64 x2, .int .u64 x3, .list 1 l4, .list 1 l5, .list 1 l6, .int .i64 x7, .int .u64 x8, .int .u32 0, .int .u64 0, .int .i64 x2, .int .i64 0])
   else nat_Nat_DivMod.l23 n [m0] n [.list 1 l0, .list 1 l1, .int .i64 x2, .int .u64 x3, .list 1 l4, .list 1 l5, .list 1 l6, .int .i64 x7, .int .u64 x8, .int .u32 0, .int .u64 0, .int .i64 x2, .int .i64 0]) := by kernel_rfl
theorem nat_Nat_DivMod.l23_eq (n m m0 : Nat) (l0 : List FV) (l1 : List FV) (x2 : Int) (x3 : Int) (l4 : List FV) (l5 : List FV) (l6 : List FV) (x7 : Int) (x8 : Int) (x9 : Int) (x10 : Int) (x11 : Int) (x12 : Int) : nat_Nat_DivMod.l23 n [m0] (m + 1) [.list 1 l0, .list 1 l1, .int .i64 x2, .int .u64 x3, .list 1 l4, .list 1 l5, .list 1 l6, .int .i64 x7, .int .u64 x8, .int .u32 x9, .int .u64 x10, .int .i64 x11, .int .i64 x12] = 
  (bif (decide (x12 < x11)) then (ix x12 l4.length).bind fun i0 => (asInt .u32 (at' l4 i0 0)).bind fun n1 => (ix (Go.IntKind.wrap .i64 (x7 + x12)) l5.length).bind fun i2 => (asInt .u32 (at' l5 i2 0)).bind fun n3 => (evF En n 149 [.int .u32 n3, .int .u32 (Go.IntKind.wrap .u32 (Go.IntKind.wrap .u64 (x10 + (Go.IntKind.wrap .u64 (x8 * (Go.IntKind.wrap .u64 n1)))))), .int .u32 x9]).bind fun r4 => (asInt .u32 (r4[0]?)).bind fun n5 => (asInt .u32 (r4[1]?)).bind fun n6 => (ix (Go.IntKind.wrap .i64 (x7 + x12)) l5.length).bind fun i7 => nat_Nat_DivMod.l23 n [m0] m [.list 1 l0, .list 1 l1, .int .i64 x2, .int .u64 x3, .list 1 l4, .list 1 (List.set l5 i7 (.int .u32 n5)), .list 1 l6, .int .i64 x7, .int .u64 x8, .int .u32 n6, .int .u64 (shI false .u64 (Go.IntKind.wrap .u64 (x10 + (Go.IntKind.wrap .u64 (x8 * (Go.IntKind.wrap .u64 n1))))) 32), .int .i64 x11, .int .i64 (Go.IntKind.wrap .i64 (x12 + 1))]
   else (ix (Go.IntKind.wrap .i64 (x7 + x2)) l5.length).bind fun i8 => (asInt .u32 (at' l5 i8 0)).bind fun n9 => (evF En n 149 [.int .u32 n9, .int .u32 (Go.IntKind.wrap .u32 x10), .int .u32 x9]).bind fun r10 => (asInt .u32 (r10[0]?)).bind fun n11 => (asInt .u32 (r10[1]?)).bind fun n12 => (ix (Go.IntKind.wrap .i64 (x7 + x2)) l5.length).bind fun i13 => (ix x7 l6.length).bind fun i14 => 
    (bif (n12 == 0) then nat_Nat_DivMod.l13 n [] m0 [.list 1 l0, .list 1 l1, .int .i64 x2, .int .u64 x3, .list 1 l4, .list 1 (List.set l5 i13 (.int .u32 n11)), .list 1 (List.set l6 i14 (.int .u32 (Go.IntKind.wrap .u32 x8))), .int .i64 (Go.IntKind.wrap .i64 (x7 - 1))]
     else (ix x7 (List.set l6 i14 (.int .u32 (Go.IntKind.wrap .u32 x8))).length).bind fun i15 => (asInt .u32 (at' (List.set l6 i14 (.int .u32 (Go.IntKind.wrap .u32 x8))) i15 0)).bind fun n16 => (ix x7 (List.set l6 i14 (.int .u32 (Go.IntKind.wrap .u32 x8))).length).bind fun i17 => nat_Nat_DivMod.l35 n [m0] n [.list 1 l0, .list 1 l1, .int .i64 x2, .int .u64 x3, .list 1 l4, .list 1 (List.set l5 i13 (.int .u32 n11)), .list 1 (List.set (List.set l6 i14 (.int .u32 (Go.IntKind.wrap .u32 x8))) i17 (.int .u32 (Go.IntKind.wrap .u32 (n16 - 1)))), .int .i64 x7, .int .u32 0, .int .i64 x2, .int .i64 0])) := by kernel_rfl
theorem nat_Nat_DivMod.l35_eq (n m m0 : Nat) (l0 : List FV) (l1 : List FV) (x2 : Int) (x3 : Int) (l4 : List FV) (l5 : List FV) (l6 : List FV) (x7 : Int) (x8 : Int) (x9 : Int) (x10 : Int) : nat_Nat_DivMod.l35 n [m0] (m + 1) [.list 1 l0, .list 1 l1, .int .i64 x2, .int .u64 x3, .list 1 l4, .list 1 l5, .list 1 l6, .int .i64 x7, .int .u32 x8, .int .i64 x9, .int .i64 x10] = 
  (bif (decide (x10 < x9)) then (ix (Go.IntKind.wrap .i64 (x7 + x10)) l5.length).bind fun i0 => (asInt .u32 (at' l5 i0 0)).bind fun n1 => (ix x10 l4.length).bind fun i2 => (asInt .u32 (at' l4 i2 0)).bind fun n3 => (evF En n 208 [.int .u32 n1, .int .u32 n3, .int .u32 x8]).bind fun r4 => (asInt .u32 (r4[0]?)).bind fun n5 => (asInt .u32 (r4[1]?)).bind fun n6 => (ix (Go.IntKind.wrap .i64 (x7 + x10)) l5.length).bind fun i7 => nat_Nat_DivMod.l35 n [m0] m [.list 1 l0, .list 1 l1, .int .i64 x2, .int .u64 x3, .list 1 l4, .list 1 (List.set l5 i7 (.int .u32 n5)), .list 1 l6, .int .i64 x7, .int .u32 n6, .int .i64 x9, .int .i64 (Go.IntKind.wrap .i64 (x10 + 1))]
   else (ix (Go.IntKind.wrap .i64 (x7 + x2)) l5.length).bind fun i8 => (asInt .u32 (at' l5 i8 0)).bind fun n9 => (ix (Go.IntKind.wrap .i64 (x7 + x2)) l5.length).bind fun i10 => nat_Nat_DivMod.l13 n [] m0 [.list 1 l0, .list 1 l1, .int .i64 x2, .int .u64 x3, .list 1 l4, .list 1 (List.set l5 i10 (.int .u32 (Go.IntKind.wrap .u32 (n9 + x8)))), .list 1 l6, .int .i64 (Go.IntKind.wrap .i64 (x7 - 1))]) := by kernel_rfl
theorem nat_Nat_DivMod.l42_eq (n m : Nat) (l0 : List FV) (l1 : List FV) (x2 : Int) (l3 : List FV) (l4 : List FV) (l5 : List FV) (x6 : Int) (x7 : Int) : nat_Nat_DivMod.l42 n [] (m + 1) [.list 1 l0, .list 1 l1, .int .u64 x2, .list 1 l3, .list 1 l4, .list 1 l5, .int .i64 x6, .int .i64 x7] = 
  (bif (decide (x7 < x6)) then (ix (Go.IntKind.wrap .i64 (x7 + 1)) l3.length).bind fun i0 => (asInt .u32 (at' l3 i0 0)).bind fun n1 => (ix x7 l3.length).bind fun i2 => (asInt .u32 (at' l3 i2 0)).bind fun n3 => 
    (bif (decide (x2 < 0)) then none
     else (ix x7 l5.length).bind fun i4 => nat_Nat_DivMod.l42 n [] m [.list 1 l0, .list 1 l1, .int .u64 x2, .list 1 l3, .list 1 l4, .list 1 (List.set l5 i4 (.int .u32 (Go.IntKind.wrap .u32 (shI false .u64 (bitI .or .u64 (shI true .u64 (Go.IntKind.wrap .u64 n1) 32) (Go.IntKind.wrap .u64 n3)) x2)))), .int .i64 x6, .int .i64 (Go.IntKind.wrap .i64 (x7 + 1))])
   else (evF En n 147 [.list 1 l4]).bind fun r5 => (asLst 1 (r5[0]?)).bind fun v6 => (evF En n 147 [.list 1 l5]).bind fun r7 => (asLst 1 (r7[0]?)).bind fun v8 => some [.list 1 v6, .list 1 v8, .int .i64 0]) := by kernel_rfl
theorem nat_Nat_DivMod_eq (n : Nat) (l0 : List FV) (l1 : List FV) : evF En (n + 1) 165 [.list 1 l0, .list 1 l1] = 
  (bif ((l1.length : Int) == 0) then some [.list 1 [], .list 1 [], .int .i64 12]
   else (evF En n 129 [.list 1 l0, .list 1 l1]).bind fun r0 => (asInt .i64 (r0[0]?)).bind fun n1 => 
    (bif (decide (n1 < 0)) then some [.list 1 [], .list 1 l0, .int .i64 0]
     else 
      (bif ((l1.length : Int) == 1) then (ix 0 l1.length).bind fun i2 => (asInt .u32 (at' l1 i2 0)).bind fun n3 => (evF En n 153 [.list 1 l0, .int .u32 n3]).bind fun r4 => (asLst 1 (r4[0]?)).bind fun v5 => (asInt .u32 (r4[1]?)).bind fun n6 => (evF En n 127 [.int .u64 (Go.IntKind.wrap .u64 n6)]).bind fun r7 => (asLst 1 (r7[0]?)).bind fun v8 => some [.list 1 v5, .list 1 v8, .int .i64 0]
       else (ix (Go.IntKind.wrap .i64 ((l1.length : Int) - 1)) l1.length).bind fun i9 => (asInt .u32 (at' l1 i9 0)).bind fun n10 => (evF En n 206 [.int .u32 n10]).bind fun r11 => (asInt .i64 (r11[0]?)).bind fun n12 => (evF En n 207 [.list 1 l1, .int .u64 (Go.IntKind.wrap .u64 n12)]).bind fun r13 => (asLst 1 (r13[0]?)).bind fun v14 => (bd (l1.length : Int) (Rf.viewOf Option.none v14.length).snd).bind fun i15 => (evF En n 207 [.list 1 l0, .int .u64 (Go.IntKind.wrap .u64 n12)]).bind fun r16 => (asLst 1 (r16[0]?)).bind fun v17 => (mkLen 4 (Go.IntKind.wrap .i64 ((v17.length : Int) - (l1.length : Int)))).bind fun i18 => (bd (Go.IntKind.wrap .i64 ((v17.length : Int) - (l1.length : Int))) i18).bind fun i19 => nat_Nat_DivMod.l13 n [] n [.list 1 [], .list 1 [], .int .i64 (l1.length : Int), .int .u64 (Go.IntKind.wrap .u64 n12), .list 1 (List.take (i15 - 0) (List.drop ((Rf.viewOf Option.none v14.length).fst + 0) v14)), .list 1 v17, .list 1 (List.replicate i19 (.int .u32 0 : FV)), .int .i64 (Go.IntKind.wrap .i64 (((List.replicate i19 (.int .u32 0 : FV)).length : Int) - 1))]))) := by kernel_rfl
theorem bits_LeadingZeros32_eq (n : Nat) (x0 : Int) : evF En (n + 1) 206 [.int .u32 x0] = (evF En n 163 [.int .u32 x0]).bind fun r0 => (asInt .i64 (r0[0]?)).bind fun n1 => some [.int .i64 (Go.IntKind.wrap .i64 (32 - n1))] := by kernel_rfl
noncomputable def nat_Nat_shifted.l3 (n : Nat) (ms : List Nat) (m : Nat) (L : List FV) : Res := Lp En n 207 [1, 1, 0, 1, 0] ms m L
theorem nat_Nat_shifted.l3_eq (n m : Nat) (x0 : Int) (l1 : List FV) (l2 : List FV) (x3 : Int) (x4 : Int) : nat_Nat_shifted.l3 n [] (m + 1) [.int .u64 x0, .list 1 l1, .list 1 l2, .int .i64 x3, .int .i64 x4] = 
  (bif (decide (x4 < x3)) then (ix x4 l2.length).bind fun i0 => (asInt .u32 (at' l2 i0 0)).bind fun n1 => 
    (bif (decide (x0 < 0)) then none
     else (ix x4 l1.length).bind fun i2 => (asInt .u32 (at' l1 i2 0)).bind fun n3 => (ix x4 l1.length).bind fun i4 => (ix (Go.IntKind.wrap .i64 (x4 + 1)) (List.set l1 i4 (.int .u32 (bitI .or .u32 n3 (Go.IntKind.wrap .u32 (shI true .u64 (Go.IntKind.wrap .u64 n1) x0))))).length).bind fun i5 => nat_Nat_shifted.l3 n [] m [.int .u64 x0, .list 1 (List.set (List.set l1 i4 (.int .u32 (bitI .or .u32 n3 (Go.IntKind.wrap .u32 (shI true .u64 (Go.IntKind.wrap .u64 n1) x0))))) i5 (.int .u32 (Go.IntKind.wrap .u32 (shI false .u64 (shI true .u64 (Go.IntKind.wrap .u64 n1) x0) 32)))), .list 1 l2, .int .i64 x3, .int .i64 (Go.IntKind.wrap .i64 (x4 + 1))])
   else some [.list 1 l1]) := by kernel_rfl
theorem nat_Nat_shifted_eq (n : Nat) (l0 : List FV) (x1 : Int) : evF En (n + 1) 207 [.list 1 l0, .int .u64 x1] = (mkLen 4 (Go.IntKind.wrap .i64 ((l0.length : Int) + 1))).bind fun i0 => (bd (Go.IntKind.wrap .i64 ((l0.length : Int) + 1)) i0).bind fun i1 => nat_Nat_shifted.l3 n [] n [.int .u64 x1, .list 1 (List.replicate i1 (.int .u32 0 : FV)), .list 1 l0, .int .i64 (l0.length : Int), .int .i64 0] := by kernel_rfl
theorem bits_Add32_eq (n : Nat) (x0 : Int) (x1 : Int) (x2 : Int) : evF En (n + 1) 208 [.int .u32 x0, .int .u32 x1, .int .u32 x2] = some [.int .u32 (Go.IntKind.wrap .u32 (Go.IntKind.wrap .u64 ((Go.IntKind.wrap .u64 ((Go.IntKind.wrap .u64 x0) + (Go.IntKind.wrap .u64 x1))) + (Go.IntKind.wrap .u64 x2)))), .int .u32 (Go.IntKind.wrap .u32 (shI false .u64 (Go.IntKind.wrap .u64 ((Go.IntKind.wrap .u64 ((Go.IntKind.wrap .u64 x0) + (Go.IntKind.wrap .u64 x1))) + (Go.IntKind.wrap .u64 x2))) 32))] := by kernel_rfl

end Rf
end

section
/- Made by a program of this work: what each function comes to, one step of it; by the kernel. -/
set_option linter.unusedVariables false
set_option maxRecDepth 100000
set_option maxHeartbeats 4000000
namespace Rf
open Go

theorem rat_Parse_eq (n : Nat) (s0 : ByteArray) : evF En (n + 1) 42 [.str s0] = (evF En n 78 [.str s0, .str { data := #[47] }]).bind fun r0 => (asStr (r0[0]?)).bind fun u1 => (asStr (r0[1]?)).bind fun u2 => (asBool (r0[2]?)).bind fun c3 => (evF En n 79 [.str u1]).bind fun r4 => (asLst 1 (r4[0]?)).bind fun v5 => (asBool (r4[1]?)).bind fun c6 => (asInt .i64 (r4[2]?)).bind fun n7 => (evF En n 80 []).bind fun r8 => (asLst 1 (r8[0]?)).bind fun v9 => (asBool (r8[1]?)).bind fun c10 => 
  (bif c3 then 
    (bif (n7 == 0) then (evF En n 79 [.str u2]).bind fun r11 => (asLst 1 (r11[0]?)).bind fun v12 => (asBool (r11[1]?)).bind fun c13 => (asInt .i64 (r11[2]?)).bind fun n14 => 
      (bif (n14 != 0) then some [.list 1 [], .bool false, .list 1 [], .bool false, .int .i64 10]
       else (evF En n 81 [.list 1 v5, .bool c6, .list 1 v12, .bool c13]).bind fun r15 => (asLst 1 (r15[0]?)).bind fun v16 => (asBool (r15[1]?)).bind fun c17 => (asLst 1 (r15[2]?)).bind fun v18 => (asBool (r15[3]?)).bind fun c19 => (asInt .i64 (r15[4]?)).bind fun n20 => 
        (bif (n20 != 0) then some [.list 1 [], .bool false, .list 1 [], .bool false, .int .i64 10]
         else (evF En n 48 [.list 1 v16, .bool c17, .list 1 v18, .bool c19]).bind fun r21 => (asStr (r21[0]?)).bind fun u22 => 
          (bif (!(u22.toList == s0.toList)) then some [.list 1 [], .bool false, .list 1 [], .bool false, .int .i64 10]
           else some [.list 1 v16, .bool c17, .list 1 v18, .bool c19, .int .i64 0])))
     else 
      (bif (n7 != 0) then some [.list 1 [], .bool false, .list 1 [], .bool false, .int .i64 10]
       else (evF En n 81 [.list 1 v5, .bool c6, .list 1 v9, .bool c10]).bind fun r23 => (asLst 1 (r23[0]?)).bind fun v24 => (asBool (r23[1]?)).bind fun c25 => (asLst 1 (r23[2]?)).bind fun v26 => (asBool (r23[3]?)).bind fun c27 => (asInt .i64 (r23[4]?)).bind fun n28 => 
        (bif (n28 != 0) then some [.list 1 [], .bool false, .list 1 [], .bool false, .int .i64 10]
         else (evF En n 48 [.list 1 v24, .bool c25, .list 1 v26, .bool c27]).bind fun r29 => (asStr (r29[0]?)).bind fun u30 => 
          (bif (!(u30.toList == s0.toList)) then some [.list 1 [], .bool false, .list 1 [], .bool false, .int .i64 10]
           else some [.list 1 v24, .bool c25, .list 1 v26, .bool c27, .int .i64 0]))))
   else 
    (bif (n7 != 0) then some [.list 1 [], .bool false, .list 1 [], .bool false, .int .i64 10]
     else (evF En n 81 [.list 1 v5, .bool c6, .list 1 v9, .bool c10]).bind fun r31 => (asLst 1 (r31[0]?)).bind fun v32 => (asBool (r31[1]?)).bind fun c33 => (asLst 1 (r31[2]?)).bind fun v34 => (asBool (r31[3]?)).bind fun c35 => (asInt .i64 (r31[4]?)).bind fun n36 => 
      (bif (n36 != 0) then some [.list 1 [], .bool false, .list 1 [], .bool false, .int .i64 10]
       else (evF En n 48 [.list 1 v32, .bool c33, .list 1 v34, .bool c35]).bind fun r37 => (asStr (r37[0]?)).bind fun u38 => 
        (bif (!(u38.toList == s0.toList)) then some [.list 1 [], .bool false, .list 1 [], .bool false, .int .i64 10]
         else some [.list 1 v32, .bool c33, .list 1 v34, .bool c35, .int .i64 0])))) := by kernel_rfl
theorem rat_Rat_Add_eq (n : Nat) (l0 : List FV) (b1 : Bool) (l2 : List FV) (b3 : Bool) (l4 : List FV) (b5 : Bool) (l6 : List FV) (b7 : Bool) : evF En (n + 1) 43 [.list 1 l0, .bool b1, .list 1 l2, .bool b3, .list 1 l4, .bool b5, .list 1 l6, .bool b7] = (evF En n 82 [.list 1 l0, .bool b1, .list 1 l2, .bool b3, .list 1 l4, .bool b5, .list 1 l6, .bool b7, .raw (Go.Value.func (Go.Fn.func 67) #[] #[])]).bind fun r0 => (asLst 1 (r0[0]?)).bind fun v1 => (asBool (r0[1]?)).bind fun c2 => (asLst 1 (r0[2]?)).bind fun v3 => (asBool (r0[3]?)).bind fun c4 => some [.list 1 v1, .bool c2, .list 1 v3, .bool c4] := by kernel_rfl
theorem rat_Rat_Sub_eq (n : Nat) (l0 : List FV) (b1 : Bool) (l2 : List FV) (b3 : Bool) (l4 : List FV) (b5 : Bool) (l6 : List FV) (b7 : Bool) : evF En (n + 1) 44 [.list 1 l0, .bool b1, .list 1 l2, .bool b3, .list 1 l4, .bool b5, .list 1 l6, .bool b7] = (evF En n 82 [.list 1 l0, .bool b1, .list 1 l2, .bool b3, .list 1 l4, .bool b5, .list 1 l6, .bool b7, .raw (Go.Value.func (Go.Fn.func 83) #[] #[])]).bind fun r0 => (asLst 1 (r0[0]?)).bind fun v1 => (asBool (r0[1]?)).bind fun c2 => (asLst 1 (r0[2]?)).bind fun v3 => (asBool (r0[3]?)).bind fun c4 => some [.list 1 v1, .bool c2, .list 1 v3, .bool c4] := by kernel_rfl
theorem rat_Of_eq (n : Nat) (x0 : Int) : evF En (n + 1) 45 [.int .i64 x0] = (evF En n 84 [.int .i64 x0]).bind fun r0 => (asLst 1 (r0[0]?)).bind fun v1 => (asBool (r0[1]?)).bind fun c2 => (evF En n 80 []).bind fun r3 => (asLst 1 (r3[0]?)).bind fun v4 => (asBool (r3[1]?)).bind fun c5 => some [.list 1 v1, .bool c2, .list 1 v4, .bool c5] := by kernel_rfl
theorem rat_Rat_Mul_eq (n : Nat) (l0 : List FV) (b1 : Bool) (l2 : List FV) (b3 : Bool) (l4 : List FV) (b5 : Bool) (l6 : List FV) (b7 : Bool) : evF En (n + 1) 46 [.list 1 l0, .bool b1, .list 1 l2, .bool b3, .list 1 l4, .bool b5, .list 1 l6, .bool b7] = (evF En n 85 [.list 1 l0, .bool b1, .list 1 l4, .bool b5]).bind fun r0 => (asLst 1 (r0[0]?)).bind fun v1 => (asBool (r0[1]?)).bind fun c2 => (evF En n 86 [.list 1 l0, .bool b1, .list 1 l2, .bool b3]).bind fun r3 => (asLst 1 (r3[0]?)).bind fun v4 => (asBool (r3[1]?)).bind fun c5 => (evF En n 86 [.list 1 l4, .bool b5, .list 1 l6, .bool b7]).bind fun r6 => (asLst 1 (r6[0]?)).bind fun v7 => (asBool (r6[1]?)).bind fun c8 => (evF En n 85 [.list 1 v4, .bool c5, .list 1 v7, .bool c8]).bind fun r9 => (asLst 1 (r9[0]?)).bind fun v10 => (asBool (r9[1]?)).bind fun c11 => (evF En n 81 [.list 1 v1, .bool c2, .list 1 v10, .bool c11]).bind fun r12 => (asLst 1 (r12[0]?)).bind fun v13 => (asBool (r12[1]?)).bind fun c14 => (asLst 1 (r12[2]?)).bind fun v15 => (asBool (r12[3]?)).bind fun c16 => (asInt .i64 (r12[4]?)).bind fun n17 => some [.list 1 v13, .bool c14, .list 1 v15, .bool c16] := by kernel_rfl
theorem rat_Rat_Neg_eq (n : Nat) (l0 : List FV) (b1 : Bool) (l2 : List FV) (b3 : Bool) : evF En (n + 1) 47 [.list 1 l0, .bool b1, .list 1 l2, .bool b3] = (evF En n 87 [.list 1 l0, .bool b1]).bind fun r0 => (asLst 1 (r0[0]?)).bind fun v1 => (asBool (r0[1]?)).bind fun c2 => (evF En n 86 [.list 1 l0, .bool b1, .list 1 l2, .bool b3]).bind fun r3 => (asLst 1 (r3[0]?)).bind fun v4 => (asBool (r3[1]?)).bind fun c5 => some [.list 1 v1, .bool c2, .list 1 v4, .bool c5] := by kernel_rfl
theorem rat_Rat_Text_eq (n : Nat) (l0 : List FV) (b1 : Bool) (l2 : List FV) (b3 : Bool) : evF En (n + 1) 48 [.list 1 l0, .bool b1, .list 1 l2, .bool b3] = (evF En n 86 [.list 1 l0, .bool b1, .list 1 l2, .bool b3]).bind fun r0 => (asLst 1 (r0[0]?)).bind fun v1 => (asBool (r0[1]?)).bind fun c2 => (evF En n 80 []).bind fun r3 => (asLst 1 (r3[0]?)).bind fun v4 => (asBool (r3[1]?)).bind fun c5 => (evF En n 88 [.list 1 v1, .bool c2, .list 1 v4, .bool c5]).bind fun r6 => (asInt .i64 (r6[0]?)).bind fun n7 => 
  (bif (n7 == 0) then (evF En n 71 [.list 1 l0, .bool b1]).bind fun r8 => (asStr (r8[0]?)).bind fun u9 => some [.str u9]
   else (evF En n 71 [.list 1 l0, .bool b1]).bind fun r10 => (asStr (r10[0]?)).bind fun u11 => 
    (bif (decide (((u11.size + 1) : Int) > 9223372036854775807)) then none
     else (evF En n 71 [.list 1 l2, .bool b3]).bind fun r12 => (asStr (r12[0]?)).bind fun u13 => 
      (bif (decide ((((u11 ++ { data := #[47] }).size + u13.size) : Int) > 9223372036854775807)) then none
       else some [.str ((u11 ++ { data := #[47] }) ++ u13)]))) := by kernel_rfl
theorem num_Num_Add_eq (n : Nat) (l0 : List FV) (b1 : Bool) (l2 : List FV) (b3 : Bool) : evF En (n + 1) 67 [.list 1 l0, .bool b1, .list 1 l2, .bool b3] = 
  (bif (b1 == b3) then (evF En n 112 [.list 1 l0, .list 1 l2]).bind fun r0 => (asLst 1 (r0[0]?)).bind fun v1 => (evF En n 111 [.bool b1, .list 1 v1]).bind fun r2 => (asLst 1 (r2[0]?)).bind fun v3 => (asBool (r2[1]?)).bind fun c4 => some [.list 1 v3, .bool c4]
   else (evF En n 113 [.list 1 l0, .list 1 l2]).bind fun r5 => (asLst 1 (r5[0]?)).bind fun v6 => (asInt .i64 (r5[1]?)).bind fun n7 => 
    (bif (n7 == 0) then (evF En n 111 [.bool b1, .list 1 v6]).bind fun r8 => (asLst 1 (r8[0]?)).bind fun v9 => (asBool (r8[1]?)).bind fun c10 => some [.list 1 v9, .bool c10]
     else (evF En n 113 [.list 1 l2, .list 1 l0]).bind fun r11 => (asLst 1 (r11[0]?)).bind fun v12 => (asInt .i64 (r11[1]?)).bind fun n13 => (evF En n 111 [.bool b3, .list 1 v12]).bind fun r14 => (asLst 1 (r14[0]?)).bind fun v15 => (asBool (r14[1]?)).bind fun c16 => some [.list 1 v15, .bool c16])) := by kernel_rfl
theorem num_Num_Text_eq (n : Nat) (l0 : List FV) (b1 : Bool) : evF En (n + 1) 71 [.list 1 l0, .bool b1] = 
  (bif b1 then (evF En n 117 [.list 1 l0]).bind fun r0 => (asStr (r0[0]?)).bind fun u1 => 
    (bif (decide (((1 + u1.size) : Int) > 9223372036854775807)) then none
     else some [.str ({ data := #[45] } ++ u1)])
   else (evF En n 117 [.list 1 l0]).bind fun r2 => (asStr (r2[0]?)).bind fun u3 => some [.str u3]) := by kernel_rfl
theorem num_Parse_eq (n : Nat) (s0 : ByteArray) : evF En (n + 1) 79 [.str s0] = (evF En n 121 [.str s0, .str { data := #[45] }]).bind fun r0 => (asStr (r0[0]?)).bind fun u1 => (asBool (r0[1]?)).bind fun c2 => (evF En n 122 [.str u1]).bind fun r3 => (asLst 1 (r3[0]?)).bind fun v4 => (asInt .i64 (r3[1]?)).bind fun n5 => 
  (bif (n5 != 0) then some [.list 1 [], .bool false, .int .i64 10]
   else 
    (bif c2 then (evF En n 123 [.list 1 v4]).bind fun r6 => (asInt .i64 (r6[0]?)).bind fun n7 => 
      (bif (n7 == 0) then some [.list 1 [], .bool false, .int .i64 10]
       else (evF En n 111 [.bool c2, .list 1 v4]).bind fun r8 => (asLst 1 (r8[0]?)).bind fun v9 => (asBool (r8[1]?)).bind fun c10 => some [.list 1 v9, .bool c10, .int .i64 0])
     else (evF En n 111 [.bool c2, .list 1 v4]).bind fun r11 => (asLst 1 (r11[0]?)).bind fun v12 => (asBool (r11[1]?)).bind fun c13 => some [.list 1 v12, .bool c13, .int .i64 0])) := by kernel_rfl
theorem rat_one_eq (n : Nat)  : evF En (n + 1) 80 [] = (evF En n 84 [.int .i64 1]).bind fun r0 => (asLst 1 (r0[0]?)).bind fun v1 => (asBool (r0[1]?)).bind fun c2 => some [.list 1 v1, .bool c2] := by kernel_rfl
theorem rat_Make_eq (n : Nat) (l0 : List FV) (b1 : Bool) (l2 : List FV) (b3 : Bool) : evF En (n + 1) 81 [.list 1 l0, .bool b1, .list 1 l2, .bool b3] = (evF En n 110 [.list 1 l2, .bool b3]).bind fun r0 => (asInt .i64 (r0[0]?)).bind fun n1 => 
  (bif (n1 == 0) then some [.list 1 [], .bool false, .list 1 [], .bool false, .int .i64 12]
   else 
    (bif (n1 == (-1)) then (evF En n 87 [.list 1 l0, .bool b1]).bind fun r2 => (asLst 1 (r2[0]?)).bind fun v3 => (asBool (r2[1]?)).bind fun c4 => (evF En n 87 [.list 1 l2, .bool b3]).bind fun r5 => (asLst 1 (r5[0]?)).bind fun v6 => (asBool (r5[1]?)).bind fun c7 => (evF En n 124 [.list 1 v3, .bool c4]).bind fun r8 => (asLst 1 (r8[0]?)).bind fun v9 => (evF En n 124 [.list 1 v6, .bool c7]).bind fun r10 => (asLst 1 (r10[0]?)).bind fun v11 => (evF En n 125 [.list 1 v9, .list 1 v11]).bind fun r12 => (asLst 1 (r12[0]?)).bind fun v13 => (evF En n 111 [.bool false, .list 1 v13]).bind fun r14 => (asLst 1 (r14[0]?)).bind fun v15 => (asBool (r14[1]?)).bind fun c16 => (evF En n 80 []).bind fun r17 => (asLst 1 (r17[0]?)).bind fun v18 => (asBool (r17[1]?)).bind fun c19 => (evF En n 88 [.list 1 v15, .bool c16, .list 1 v18, .bool c19]).bind fun r20 => (asInt .i64 (r20[0]?)).bind fun n21 => 
      (bif (n21 != 0) then (evF En n 126 [.list 1 v3, .bool c4, .list 1 v15, .bool c16]).bind fun r22 => (asLst 1 (r22[0]?)).bind fun v23 => (asBool (r22[1]?)).bind fun c24 => (asLst 1 (r22[2]?)).bind fun v25 => (asBool (r22[3]?)).bind fun c26 => (asInt .i64 (r22[4]?)).bind fun n27 => (evF En n 126 [.list 1 v6, .bool c7, .list 1 v15, .bool c16]).bind fun r28 => (asLst 1 (r28[0]?)).bind fun v29 => (asBool (r28[1]?)).bind fun c30 => (asLst 1 (r28[2]?)).bind fun v31 => (asBool (r28[3]?)).bind fun c32 => (asInt .i64 (r28[4]?)).bind fun n33 => some [.list 1 v23, .bool c24, .list 1 v29, .bool c30, .int .i64 0]
       else some [.list 1 v3, .bool c4, .list 1 v6, .bool c7, .int .i64 0])
     else (evF En n 124 [.list 1 l0, .bool b1]).bind fun r34 => (asLst 1 (r34[0]?)).bind fun v35 => (evF En n 124 [.list 1 l2, .bool b3]).bind fun r36 => (asLst 1 (r36[0]?)).bind fun v37 => (evF En n 125 [.list 1 v35, .list 1 v37]).bind fun r38 => (asLst 1 (r38[0]?)).bind fun v39 => (evF En n 111 [.bool false, .list 1 v39]).bind fun r40 => (asLst 1 (r40[0]?)).bind fun v41 => (asBool (r40[1]?)).bind fun c42 => (evF En n 80 []).bind fun r43 => (asLst 1 (r43[0]?)).bind fun v44 => (asBool (r43[1]?)).bind fun c45 => (evF En n 88 [.list 1 v41, .bool c42, .list 1 v44, .bool c45]).bind fun r46 => (asInt .i64 (r46[0]?)).bind fun n47 => 
      (bif (n47 != 0) then (evF En n 126 [.list 1 l0, .bool b1, .list 1 v41, .bool c42]).bind fun r48 => (asLst 1 (r48[0]?)).bind fun v49 => (asBool (r48[1]?)).bind fun c50 => (asLst 1 (r48[2]?)).bind fun v51 => (asBool (r48[3]?)).bind fun c52 => (asInt .i64 (r48[4]?)).bind fun n53 => (evF En n 126 [.list 1 l2, .bool b3, .list 1 v41, .bool c42]).bind fun r54 => (asLst 1 (r54[0]?)).bind fun v55 => (asBool (r54[1]?)).bind fun c56 => (asLst 1 (r54[2]?)).bind fun v57 => (asBool (r54[3]?)).bind fun c58 => (asInt .i64 (r54[4]?)).bind fun n59 => some [.list 1 v49, .bool c50, .list 1 v55, .bool c56, .int .i64 0]
       else some [.list 1 l0, .bool b1, .list 1 l2, .bool b3, .int .i64 0]))) := by kernel_rfl
theorem rat_joined_eq (n : Nat) (l0 : List FV) (b1 : Bool) (l2 : List FV) (b3 : Bool) (l4 : List FV) (b5 : Bool) (l6 : List FV) (b7 : Bool)  : evF En (n + 1) 82 [.list 1 l0, .bool b1, .list 1 l2, .bool b3, .list 1 l4, .bool b5, .list 1 l6, .bool b7, .raw (Go.Value.func (Go.Fn.func 0) #[] #[])] = (evF En n 86 [.list 1 l0, .bool b1, .list 1 l2, .bool b3]).bind fun r0 => (asLst 1 (r0[0]?)).bind fun v1 => (asBool (r0[1]?)).bind fun c2 => (evF En n 80 []).bind fun r3 => (asLst 1 (r3[0]?)).bind fun v4 => (asBool (r3[1]?)).bind fun c5 => (evF En n 88 [.list 1 v1, .bool c2, .list 1 v4, .bool c5]).bind fun r6 => (asInt .i64 (r6[0]?)).bind fun n7 => 
  (bif (n7 == 0) then (evF En n 86 [.list 1 l4, .bool b5, .list 1 l6, .bool b7]).bind fun r8 => (asLst 1 (r8[0]?)).bind fun v9 => (asBool (r8[1]?)).bind fun c10 => (evF En n 80 []).bind fun r11 => (asLst 1 (r11[0]?)).bind fun v12 => (asBool (r11[1]?)).bind fun c13 => (evF En n 88 [.list 1 v9, .bool c10, .list 1 v12, .bool c13]).bind fun r14 => (asInt .i64 (r14[0]?)).bind fun n15 => 
    (bif (n15 == 0) then none
     else (evF En n 86 [.list 1 l4, .bool b5, .list 1 l6, .bool b7]).bind fun r16 => (asLst 1 (r16[0]?)).bind fun v17 => (asBool (r16[1]?)).bind fun c18 => (evF En n 85 [.list 1 l0, .bool b1, .list 1 v17, .bool c18]).bind fun r19 => (asLst 1 (r19[0]?)).bind fun v20 => (asBool (r19[1]?)).bind fun c21 => (evF En n 86 [.list 1 l0, .bool b1, .list 1 l2, .bool b3]).bind fun r22 => (asLst 1 (r22[0]?)).bind fun v23 => (asBool (r22[1]?)).bind fun c24 => (evF En n 85 [.list 1 l4, .bool b5, .list 1 v23, .bool c24]).bind fun r25 => (asLst 1 (r25[0]?)).bind fun v26 => (asBool (r25[1]?)).bind fun c27 => none)
   else (evF En n 86 [.list 1 l4, .bool b5, .list 1 l6, .bool b7]).bind fun r28 => (asLst 1 (r28[0]?)).bind fun v29 => (asBool (r28[1]?)).bind fun c30 => (evF En n 85 [.list 1 l0, .bool b1, .list 1 v29, .bool c30]).bind fun r31 => (asLst 1 (r31[0]?)).bind fun v32 => (asBool (r31[1]?)).bind fun c33 => (evF En n 86 [.list 1 l0, .bool b1, .list 1 l2, .bool b3]).bind fun r34 => (asLst 1 (r34[0]?)).bind fun v35 => (asBool (r34[1]?)).bind fun c36 => (evF En n 85 [.list 1 l4, .bool b5, .list 1 v35, .bool c36]).bind fun r37 => (asLst 1 (r37[0]?)).bind fun v38 => (asBool (r37[1]?)).bind fun c39 => none) := by kernel_rfl
theorem num_Num_Sub_eq (n : Nat) (l0 : List FV) (b1 : Bool) (l2 : List FV) (b3 : Bool) : evF En (n + 1) 83 [.list 1 l0, .bool b1, .list 1 l2, .bool b3] = (evF En n 87 [.list 1 l2, .bool b3]).bind fun r0 => (asLst 1 (r0[0]?)).bind fun v1 => (asBool (r0[1]?)).bind fun c2 => (evF En n 67 [.list 1 l0, .bool b1, .list 1 v1, .bool c2]).bind fun r3 => (asLst 1 (r3[0]?)).bind fun v4 => (asBool (r3[1]?)).bind fun c5 => some [.list 1 v4, .bool c5] := by kernel_rfl
theorem num_Of_eq (n : Nat) (x0 : Int) : evF En (n + 1) 84 [.int .i64 x0] = 
  (bif (decide (x0 < 0)) then (evF En n 127 [.int .u64 (Go.IntKind.wrap .u64 (0 - (Go.IntKind.wrap .u64 x0)))]).bind fun r0 => (asLst 1 (r0[0]?)).bind fun v1 => (evF En n 111 [.bool true, .list 1 v1]).bind fun r2 => (asLst 1 (r2[0]?)).bind fun v3 => (asBool (r2[1]?)).bind fun c4 => some [.list 1 v3, .bool c4]
   else (evF En n 127 [.int .u64 (Go.IntKind.wrap .u64 x0)]).bind fun r5 => (asLst 1 (r5[0]?)).bind fun v6 => (evF En n 111 [.bool false, .list 1 v6]).bind fun r7 => (asLst 1 (r7[0]?)).bind fun v8 => (asBool (r7[1]?)).bind fun c9 => some [.list 1 v8, .bool c9]) := by kernel_rfl
theorem num_Num_Mul_eq (n : Nat) (l0 : List FV) (b1 : Bool) (l2 : List FV) (b3 : Bool) : evF En (n + 1) 85 [.list 1 l0, .bool b1, .list 1 l2, .bool b3] = (evF En n 128 [.list 1 l0, .list 1 l2]).bind fun r0 => (asLst 1 (r0[0]?)).bind fun v1 => (evF En n 111 [.bool (!(b1 == b3)), .list 1 v1]).bind fun r2 => (asLst 1 (r2[0]?)).bind fun v3 => (asBool (r2[1]?)).bind fun c4 => some [.list 1 v3, .bool c4] := by kernel_rfl
theorem rat_Rat_Den_eq (n : Nat) (l0 : List FV) (b1 : Bool) (l2 : List FV) (b3 : Bool) : evF En (n + 1) 86 [.list 1 l0, .bool b1, .list 1 l2, .bool b3] = (evF En n 110 [.list 1 l2, .bool b3]).bind fun r0 => (asInt .i64 (r0[0]?)).bind fun n1 => 
  (bif (n1 == 0) then (evF En n 80 []).bind fun r2 => (asLst 1 (r2[0]?)).bind fun v3 => (asBool (r2[1]?)).bind fun c4 => some [.list 1 v3, .bool c4]
   else some [.list 1 l2, .bool b3]) := by kernel_rfl
theorem num_Num_Neg_eq (n : Nat) (l0 : List FV) (b1 : Bool) : evF En (n + 1) 87 [.list 1 l0, .bool b1] = (evF En n 111 [.bool (!b1), .list 1 l0]).bind fun r0 => (asLst 1 (r0[0]?)).bind fun v1 => (asBool (r0[1]?)).bind fun c2 => some [.list 1 v1, .bool c2] := by kernel_rfl
theorem num_Num_Cmp_eq (n : Nat) (l0 : List FV) (b1 : Bool) (l2 : List FV) (b3 : Bool) : evF En (n + 1) 88 [.list 1 l0, .bool b1, .list 1 l2, .bool b3] = 
  (bif b1 then 
    (bif (!b3) then some [.int .i64 (-1)]
     else 
      (bif (!b1) then 
        (bif b3 then some [.int .i64 1]
         else 
          (bif b1 then (evF En n 129 [.list 1 l2, .list 1 l0]).bind fun r0 => (asInt .i64 (r0[0]?)).bind fun n1 => some [.int .i64 n1]
           else (evF En n 129 [.list 1 l0, .list 1 l2]).bind fun r2 => (asInt .i64 (r2[0]?)).bind fun n3 => some [.int .i64 n3]))
       else 
        (bif b1 then (evF En n 129 [.list 1 l2, .list 1 l0]).bind fun r4 => (asInt .i64 (r4[0]?)).bind fun n5 => some [.int .i64 n5]
         else (evF En n 129 [.list 1 l0, .list 1 l2]).bind fun r6 => (asInt .i64 (r6[0]?)).bind fun n7 => some [.int .i64 n7])))
   else 
    (bif (!b1) then 
      (bif b3 then some [.int .i64 1]
       else 
        (bif b1 then (evF En n 129 [.list 1 l2, .list 1 l0]).bind fun r8 => (asInt .i64 (r8[0]?)).bind fun n9 => some [.int .i64 n9]
         else (evF En n 129 [.list 1 l0, .list 1 l2]).bind fun r10 => (asInt .i64 (r10[0]?)).bind fun n11 => some [.int .i64 n11]))
     else 
      (bif b1 then (evF En n 129 [.list 1 l2, .list 1 l0]).bind fun r12 => (asInt .i64 (r12[0]?)).bind fun n13 => some [.int .i64 n13]
       else (evF En n 129 [.list 1 l0, .list 1 l2]).bind fun r14 => (asInt .i64 (r14[0]?)).bind fun n15 => some [.int .i64 n15]))) := by kernel_rfl
theorem rat_Rat_Sign_eq (n : Nat) (l0 : List FV) (b1 : Bool) (l2 : List FV) (b3 : Bool) : evF En (n + 1) 95 [.list 1 l0, .bool b1, .list 1 l2, .bool b3] = (evF En n 110 [.list 1 l0, .bool b1]).bind fun r0 => (asInt .i64 (r0[0]?)).bind fun n1 => some [.int .i64 n1] := by kernel_rfl
theorem rat_Rat_Cmp_eq (n : Nat) (l0 : List FV) (b1 : Bool) (l2 : List FV) (b3 : Bool) (l4 : List FV) (b5 : Bool) (l6 : List FV) (b7 : Bool) : evF En (n + 1) 96 [.list 1 l0, .bool b1, .list 1 l2, .bool b3, .list 1 l4, .bool b5, .list 1 l6, .bool b7] = (evF En n 86 [.list 1 l4, .bool b5, .list 1 l6, .bool b7]).bind fun r0 => (asLst 1 (r0[0]?)).bind fun v1 => (asBool (r0[1]?)).bind fun c2 => (evF En n 85 [.list 1 l0, .bool b1, .list 1 v1, .bool c2]).bind fun r3 => (asLst 1 (r3[0]?)).bind fun v4 => (asBool (r3[1]?)).bind fun c5 => (evF En n 86 [.list 1 l0, .bool b1, .list 1 l2, .bool b3]).bind fun r6 => (asLst 1 (r6[0]?)).bind fun v7 => (asBool (r6[1]?)).bind fun c8 => (evF En n 85 [.list 1 l4, .bool b5, .list 1 v7, .bool c8]).bind fun r9 => (asLst 1 (r9[0]?)).bind fun v10 => (asBool (r9[1]?)).bind fun c11 => (evF En n 88 [.list 1 v4, .bool c5, .list 1 v10, .bool c11]).bind fun r12 => (asInt .i64 (r12[0]?)).bind fun n13 => some [.int .i64 n13] := by kernel_rfl
theorem num_Num_Sign_eq (n : Nat) (l0 : List FV) (b1 : Bool) : evF En (n + 1) 110 [.list 1 l0, .bool b1] = 
  (bif b1 then some [.int .i64 (-1)]
   else (evF En n 146 [.list 1 l0, .bool b1]).bind fun r0 => (asBool (r0[0]?)).bind fun c1 => 
    (bif c1 then some [.int .i64 0]
     else some [.int .i64 1])) := by kernel_rfl
theorem num_Make_eq (n : Nat) (b0 : Bool) (l1 : List FV) : evF En (n + 1) 111 [.bool b0, .list 1 l1] = 
  (bif b0 then (evF En n 123 [.list 1 l1]).bind fun r0 => (asInt .i64 (r0[0]?)).bind fun n1 => some [.list 1 l1, .bool (decide (n1 > 0))]
   else some [.list 1 l1, .bool false]) := by kernel_rfl
theorem strings_CutPrefix_eq (n : Nat) (s0 : ByteArray) (s1 : ByteArray) : evF En (n + 1) 121 [.str s0, .str s1] = (evF En n 159 [.str s0, .str s1]).bind fun r0 => (asStr (r0[0]?)).bind fun u1 => (asBool (r0[1]?)).bind fun c2 => some [.str u1, .bool c2] := by kernel_rfl
theorem num_Num_Abs_eq (n : Nat) (l0 : List FV) (b1 : Bool) : evF En (n + 1) 124 [.list 1 l0, .bool b1] = some [.list 1 l0] := by kernel_rfl
theorem num_Num_QuoRem_eq (n : Nat) (l0 : List FV) (b1 : Bool) (l2 : List FV) (b3 : Bool) : evF En (n + 1) 126 [.list 1 l0, .bool b1, .list 1 l2, .bool b3] = (evF En n 165 [.list 1 l0, .list 1 l2]).bind fun r0 => (asLst 1 (r0[0]?)).bind fun v1 => (asLst 1 (r0[1]?)).bind fun v2 => (asInt .i64 (r0[2]?)).bind fun n3 => 
  (bif (n3 != 0) then some [.list 1 [], .bool false, .list 1 [], .bool false, .int .i64 n3]
   else (evF En n 111 [.bool (!(b1 == b3)), .list 1 v1]).bind fun r4 => (asLst 1 (r4[0]?)).bind fun v5 => (asBool (r4[1]?)).bind fun c6 => (evF En n 111 [.bool b1, .list 1 v2]).bind fun r7 => (asLst 1 (r7[0]?)).bind fun v8 => (asBool (r7[1]?)).bind fun c9 => some [.list 1 v5, .bool c6, .list 1 v8, .bool c9, .int .i64 0]) := by kernel_rfl
theorem num_Num_zero_eq (n : Nat) (l0 : List FV) (b1 : Bool) : evF En (n + 1) 146 [.list 1 l0, .bool b1] = (evF En n 123 [.list 1 l0]).bind fun r0 => (asInt .i64 (r0[0]?)).bind fun n1 => some [.bool (n1 == 0)] := by kernel_rfl
theorem stringslite_CutPrefix_eq (n : Nat) (s0 : ByteArray) (s1 : ByteArray) : evF En (n + 1) 159 [.str s0, .str s1] = (evF En n 196 [.str s0, .str s1]).bind fun r0 => (asBool (r0[0]?)).bind fun c1 => 
  (bif (!c1) then some [.str s0, .bool false]
   else (bd (s1.size : Int) s0.size).bind fun i2 => some [.str (s0.extract i2 s0.size), .bool true]) := by kernel_rfl
theorem strings_HasPrefix_eq (n : Nat) (s0 : ByteArray) (s1 : ByteArray) : evF En (n + 1) 187 [.str s0, .str s1] = (evF En n 196 [.str s0, .str s1]).bind fun r0 => (asBool (r0[0]?)).bind fun c1 => some [.bool c1] := by kernel_rfl
theorem stringslite_HasPrefix_eq (n : Nat) (s0 : ByteArray) (s1 : ByteArray) : evF En (n + 1) 196 [.str s0, .str s1] = 
  (bif (decide ((s0.size : Int) ≥ (s1.size : Int))) then (bd (s1.size : Int) s0.size).bind fun i0 => some [.bool ((s0.extract 0 i0).toList == s1.toList)]
   else some [.bool false]) := by kernel_rfl

end Rf
end

section
/- Made by a program of this work: what each function comes to, one step of it; by the kernel. -/
set_option linter.unusedVariables false
set_option maxRecDepth 100000
set_option maxHeartbeats 4000000
namespace Rf
open Go

theorem rat_joined_67_eq (n : Nat) (l0 : List FV) (b1 : Bool) (l2 : List FV) (b3 : Bool) (l4 : List FV) (b5 : Bool) (l6 : List FV) (b7 : Bool)  : evF En (n + 1) 82 [.list 1 l0, .bool b1, .list 1 l2, .bool b3, .list 1 l4, .bool b5, .list 1 l6, .bool b7, .raw (Go.Value.func (Go.Fn.func 67) #[] #[])] = (evF En n 86 [.list 1 l0, .bool b1, .list 1 l2, .bool b3]).bind fun r0 => (asLst 1 (r0[0]?)).bind fun v1 => (asBool (r0[1]?)).bind fun c2 => (evF En n 80 []).bind fun r3 => (asLst 1 (r3[0]?)).bind fun v4 => (asBool (r3[1]?)).bind fun c5 => (evF En n 88 [.list 1 v1, .bool c2, .list 1 v4, .bool c5]).bind fun r6 => (asInt .i64 (r6[0]?)).bind fun n7 => 
  (bif (n7 == 0) then (evF En n 86 [.list 1 l4, .bool b5, .list 1 l6, .bool b7]).bind fun r8 => (asLst 1 (r8[0]?)).bind fun v9 => (asBool (r8[1]?)).bind fun c10 => (evF En n 80 []).bind fun r11 => (asLst 1 (r11[0]?)).bind fun v12 => (asBool (r11[1]?)).bind fun c13 => (evF En n 88 [.list 1 v9, .bool c10, .list 1 v12, .bool c13]).bind fun r14 => (asInt .i64 (r14[0]?)).bind fun n15 => 
    (bif (n15 == 0) then (evF En n 67 [.list 1 l0, .bool b1, .list 1 l4, .bool b5]).bind fun r16 => (asLst 1 (r16[0]?)).bind fun v17 => (asBool (r16[1]?)).bind fun c18 => (evF En n 80 []).bind fun r19 => (asLst 1 (r19[0]?)).bind fun v20 => (asBool (r19[1]?)).bind fun c21 => some [.list 1 v17, .bool c18, .list 1 v20, .bool c21]
     else (evF En n 86 [.list 1 l4, .bool b5, .list 1 l6, .bool b7]).bind fun r22 => (asLst 1 (r22[0]?)).bind fun v23 => (asBool (r22[1]?)).bind fun c24 => (evF En n 85 [.list 1 l0, .bool b1, .list 1 v23, .bool c24]).bind fun r25 => (asLst 1 (r25[0]?)).bind fun v26 => (asBool (r25[1]?)).bind fun c27 => (evF En n 86 [.list 1 l0, .bool b1, .list 1 l2, .bool b3]).bind fun r28 => (asLst 1 (r28[0]?)).bind fun v29 => (asBool (r28[1]?)).bind fun c30 => (evF En n 85 [.list 1 l4, .bool b5, .list 1 v29, .bool c30]).bind fun r31 => (asLst 1 (r31[0]?)).bind fun v32 => (asBool (r31[1]?)).bind fun c33 => (evF En n 67 [.list 1 v26, .bool c27, .list 1 v32, .bool c33]).bind fun r34 => (asLst 1 (r34[0]?)).bind fun v35 => (asBool (r34[1]?)).bind fun c36 => (evF En n 86 [.list 1 l0, .bool b1, .list 1 l2, .bool b3]).bind fun r37 => (asLst 1 (r37[0]?)).bind fun v38 => (asBool (r37[1]?)).bind fun c39 => (evF En n 86 [.list 1 l4, .bool b5, .list 1 l6, .bool b7]).bind fun r40 => (asLst 1 (r40[0]?)).bind fun v41 => (asBool (r40[1]?)).bind fun c42 => (evF En n 85 [.list 1 v38, .bool c39, .list 1 v41, .bool c42]).bind fun r43 => (asLst 1 (r43[0]?)).bind fun v44 => (asBool (r43[1]?)).bind fun c45 => (evF En n 81 [.list 1 v35, .bool c36, .list 1 v44, .bool c45]).bind fun r46 => (asLst 1 (r46[0]?)).bind fun v47 => (asBool (r46[1]?)).bind fun c48 => (asLst 1 (r46[2]?)).bind fun v49 => (asBool (r46[3]?)).bind fun c50 => (asInt .i64 (r46[4]?)).bind fun n51 => some [.list 1 v47, .bool c48, .list 1 v49, .bool c50])
   else (evF En n 86 [.list 1 l4, .bool b5, .list 1 l6, .bool b7]).bind fun r52 => (asLst 1 (r52[0]?)).bind fun v53 => (asBool (r52[1]?)).bind fun c54 => (evF En n 85 [.list 1 l0, .bool b1, .list 1 v53, .bool c54]).bind fun r55 => (asLst 1 (r55[0]?)).bind fun v56 => (asBool (r55[1]?)).bind fun c57 => (evF En n 86 [.list 1 l0, .bool b1, .list 1 l2, .bool b3]).bind fun r58 => (asLst 1 (r58[0]?)).bind fun v59 => (asBool (r58[1]?)).bind fun c60 => (evF En n 85 [.list 1 l4, .bool b5, .list 1 v59, .bool c60]).bind fun r61 => (asLst 1 (r61[0]?)).bind fun v62 => (asBool (r61[1]?)).bind fun c63 => (evF En n 67 [.list 1 v56, .bool c57, .list 1 v62, .bool c63]).bind fun r64 => (asLst 1 (r64[0]?)).bind fun v65 => (asBool (r64[1]?)).bind fun c66 => (evF En n 86 [.list 1 l0, .bool b1, .list 1 l2, .bool b3]).bind fun r67 => (asLst 1 (r67[0]?)).bind fun v68 => (asBool (r67[1]?)).bind fun c69 => (evF En n 86 [.list 1 l4, .bool b5, .list 1 l6, .bool b7]).bind fun r70 => (asLst 1 (r70[0]?)).bind fun v71 => (asBool (r70[1]?)).bind fun c72 => (evF En n 85 [.list 1 v68, .bool c69, .list 1 v71, .bool c72]).bind fun r73 => (asLst 1 (r73[0]?)).bind fun v74 => (asBool (r73[1]?)).bind fun c75 => (evF En n 81 [.list 1 v65, .bool c66, .list 1 v74, .bool c75]).bind fun r76 => (asLst 1 (r76[0]?)).bind fun v77 => (asBool (r76[1]?)).bind fun c78 => (asLst 1 (r76[2]?)).bind fun v79 => (asBool (r76[3]?)).bind fun c80 => (asInt .i64 (r76[4]?)).bind fun n81 => some [.list 1 v77, .bool c78, .list 1 v79, .bool c80]) := by kernel_rfl

end Rf
end

section
/- Made by a program of this work: what each function comes to, one step of it; by the kernel. -/
set_option linter.unusedVariables false
set_option maxRecDepth 100000
set_option maxHeartbeats 4000000
namespace Rf
open Go

theorem rat_joined_83_eq (n : Nat) (l0 : List FV) (b1 : Bool) (l2 : List FV) (b3 : Bool) (l4 : List FV) (b5 : Bool) (l6 : List FV) (b7 : Bool)  : evF En (n + 1) 82 [.list 1 l0, .bool b1, .list 1 l2, .bool b3, .list 1 l4, .bool b5, .list 1 l6, .bool b7, .raw (Go.Value.func (Go.Fn.func 83) #[] #[])] = (evF En n 86 [.list 1 l0, .bool b1, .list 1 l2, .bool b3]).bind fun r0 => (asLst 1 (r0[0]?)).bind fun v1 => (asBool (r0[1]?)).bind fun c2 => (evF En n 80 []).bind fun r3 => (asLst 1 (r3[0]?)).bind fun v4 => (asBool (r3[1]?)).bind fun c5 => (evF En n 88 [.list 1 v1, .bool c2, .list 1 v4, .bool c5]).bind fun r6 => (asInt .i64 (r6[0]?)).bind fun n7 => 
  (bif (n7 == 0) then (evF En n 86 [.list 1 l4, .bool b5, .list 1 l6, .bool b7]).bind fun r8 => (asLst 1 (r8[0]?)).bind fun v9 => (asBool (r8[1]?)).bind fun c10 => (evF En n 80 []).bind fun r11 => (asLst 1 (r11[0]?)).bind fun v12 => (asBool (r11[1]?)).bind fun c13 => (evF En n 88 [.list 1 v9, .bool c10, .list 1 v12, .bool c13]).bind fun r14 => (asInt .i64 (r14[0]?)).bind fun n15 => 
    (bif (n15 == 0) then (evF En n 83 [.list 1 l0, .bool b1, .list 1 l4, .bool b5]).bind fun r16 => (asLst 1 (r16[0]?)).bind fun v17 => (asBool (r16[1]?)).bind fun c18 => (evF En n 80 []).bind fun r19 => (asLst 1 (r19[0]?)).bind fun v20 => (asBool (r19[1]?)).bind fun c21 => some [.list 1 v17, .bool c18, .list 1 v20, .bool c21]
     else (evF En n 86 [.list 1 l4, .bool b5, .list 1 l6, .bool b7]).bind fun r22 => (asLst 1 (r22[0]?)).bind fun v23 => (asBool (r22[1]?)).bind fun c24 => (evF En n 85 [.list 1 l0, .bool b1, .list 1 v23, .bool c24]).bind fun r25 => (asLst 1 (r25[0]?)).bind fun v26 => (asBool (r25[1]?)).bind fun c27 => (evF En n 86 [.list 1 l0, .bool b1, .list 1 l2, .bool b3]).bind fun r28 => (asLst 1 (r28[0]?)).bind fun v29 => (asBool (r28[1]?)).bind fun c30 => (evF En n 85 [.list 1 l4, .bool b5, .list 1 v29, .bool c30]).bind fun r31 => (asLst 1 (r31[0]?)).bind fun v32 => (asBool (r31[1]?)).bind fun c33 => (evF En n 83 [.list 1 v26, .bool c27, .list 1 v32, .bool c33]).bind fun r34 => (asLst 1 (r34[0]?)).bind fun v35 => (asBool (r34[1]?)).bind fun c36 => (evF En n 86 [.list 1 l0, .bool b1, .list 1 l2, .bool b3]).bind fun r37 => (asLst 1 (r37[0]?)).bind fun v38 => (asBool (r37[1]?)).bind fun c39 => (evF En n 86 [.list 1 l4, .bool b5, .list 1 l6, .bool b7]).bind fun r40 => (asLst 1 (r40[0]?)).bind fun v41 => (asBool (r40[1]?)).bind fun c42 => (evF En n 85 [.list 1 v38, .bool c39, .list 1 v41, .bool c42]).bind fun r43 => (asLst 1 (r43[0]?)).bind fun v44 => (asBool (r43[1]?)).bind fun c45 => (evF En n 81 [.list 1 v35, .bool c36, .list 1 v44, .bool c45]).bind fun r46 => (asLst 1 (r46[0]?)).bind fun v47 => (asBool (r46[1]?)).bind fun c48 => (asLst 1 (r46[2]?)).bind fun v49 => (asBool (r46[3]?)).bind fun c50 => (asInt .i64 (r46[4]?)).bind fun n51 => some [.list 1 v47, .bool c48, .list 1 v49, .bool c50])
   else (evF En n 86 [.list 1 l4, .bool b5, .list 1 l6, .bool b7]).bind fun r52 => (asLst 1 (r52[0]?)).bind fun v53 => (asBool (r52[1]?)).bind fun c54 => (evF En n 85 [.list 1 l0, .bool b1, .list 1 v53, .bool c54]).bind fun r55 => (asLst 1 (r55[0]?)).bind fun v56 => (asBool (r55[1]?)).bind fun c57 => (evF En n 86 [.list 1 l0, .bool b1, .list 1 l2, .bool b3]).bind fun r58 => (asLst 1 (r58[0]?)).bind fun v59 => (asBool (r58[1]?)).bind fun c60 => (evF En n 85 [.list 1 l4, .bool b5, .list 1 v59, .bool c60]).bind fun r61 => (asLst 1 (r61[0]?)).bind fun v62 => (asBool (r61[1]?)).bind fun c63 => (evF En n 83 [.list 1 v56, .bool c57, .list 1 v62, .bool c63]).bind fun r64 => (asLst 1 (r64[0]?)).bind fun v65 => (asBool (r64[1]?)).bind fun c66 => (evF En n 86 [.list 1 l0, .bool b1, .list 1 l2, .bool b3]).bind fun r67 => (asLst 1 (r67[0]?)).bind fun v68 => (asBool (r67[1]?)).bind fun c69 => (evF En n 86 [.list 1 l4, .bool b5, .list 1 l6, .bool b7]).bind fun r70 => (asLst 1 (r70[0]?)).bind fun v71 => (asBool (r70[1]?)).bind fun c72 => (evF En n 85 [.list 1 v68, .bool c69, .list 1 v71, .bool c72]).bind fun r73 => (asLst 1 (r73[0]?)).bind fun v74 => (asBool (r73[1]?)).bind fun c75 => (evF En n 81 [.list 1 v65, .bool c66, .list 1 v74, .bool c75]).bind fun r76 => (asLst 1 (r76[0]?)).bind fun v77 => (asBool (r76[1]?)).bind fun c78 => (asLst 1 (r76[2]?)).bind fun v79 => (asBool (r76[3]?)).bind fun c80 => (asInt .i64 (r76[4]?)).bind fun n81 => some [.list 1 v77, .bool c78, .list 1 v79, .bool c80]) := by kernel_rfl

end Rf
end

section
/- Made by a program of this work: what each function comes to, one step of it; by the kernel. -/
set_option linter.unusedVariables false
set_option maxRecDepth 100000
set_option maxHeartbeats 4000000
namespace Rf
open Go

noncomputable def noonbellref01_Of.l2 (n : Nat) (ms : List Nat) (m : Nat) (L : List FV) : Res := Lp En n 65 [1, 1, 0, 0] ms m L
theorem noonbellref01_Of.l2_eq (n m : Nat) (l0 : List FV) (x1 : Int) (l2 : List FV) : noonbellref01_Of.l2 n [] (m + 1) [.list 1 l0, .int .u64 x1, .list 1 l2] = 
  (bif (decide (x1 > 0)) then 
    (bif (Nat.ble (l2.length + (elemsOf 1 (.int .i64 0) [(0, (.int .i64 (Go.IntKind.wrap .i64 (Int.tmod x1 1000000000))))]).length) 17592186044416) then noonbellref01_Of.l2 n [] m [.list 1 l0, .int .u64 (Go.IntKind.wrap .u64 (Int.tdiv x1 1000000000)), .list 1 (l2 ++ (elemsOf 1 (.int .i64 0) [(0, (.int .i64 (Go.IntKind.wrap .i64 (Int.tmod x1 1000000000))))]))]
     else none)
   else some [.list 1 l2]) := by kernel_rfl
theorem noonbellref01_Of_eq (n : Nat) (x0 : Int) : evF En (n + 1) 65 [.int .u64 x0] = noonbellref01_Of.l2 n [] n [.list 1 [], .int .u64 x0, .list 1 (elemsOf 0 (.int .i64 0) [])] := by kernel_rfl
noncomputable def noonbellref01_Nat_Text.l5 (n : Nat) (ms : List Nat) (m : Nat) (L : List FV) : Res := Lp En n 68 [1, 1, 1, 0, 1, 0] ms m L
noncomputable def noonbellref01_Nat_Text.l9 (n : Nat) (ms : List Nat) (m : Nat) (L : List FV) : Res := Lp En n 68 [1, 1, 1, 0, 1, 0, 0, 1, 0, 0, 1, 1, 0] ms m L
noncomputable def noonbellref01_Nat_Text.l15 (n : Nat) (ms : List Nat) (m : Nat) (L : List FV) : Res := Lp En n 68 [1, 1, 1, 1, 1, 0, 1, 0] ms m L
theorem noonbellref01_Nat_Text.l5_eq (n m : Nat) (l0 : List FV) (l1 : List FV) (x2 : Int) : noonbellref01_Nat_Text.l5 n [] (m + 1) [.list 1 l0, .list 1 l1, .int .i64 x2] = 
  (bif (decide (x2 < (l0.length : Int))) then (ix x2 l0.length).bind fun i0 => (asInt .i64 (at' l0 i0 0)).bind fun n1 => noonbellref01_Nat_Text.l9 n [m] n [.list 1 l0, .list 1 l1, .int .i64 x2, .int .i64 n1, .int .i64 0]
   else noonbellref01_Nat_Text.l15 n [] n [.list 1 l1, .list 1 (elemsOf 0 (.int .u8 0) []), .int .i64 (Go.IntKind.wrap .i64 ((l1.length : Int) - 1))]) := by kernel_rfl
theorem noonbellref01_Nat_Text.l9_eq (n m m0 : Nat) (l0 : List FV) (l1 : List FV) (x2 : Int) (x3 : Int) (x4 : Int) : noonbellref01_Nat_Text.l9 n [m0] (m + 1) [.list 1 l0, .list 1 l1, .int .i64 x2, .int .i64 x3, .int .i64 x4] = 
  (bif (decide (x4 < 9)) then 
    (bif (decide (x3 > 0)) then 
      (bif (Nat.ble (l1.length + (elemsOf 1 (.int .u8 0) [(0, (.int .u8 (Go.IntKind.wrap .u8 (Go.IntKind.wrap .i64 (48 + (Int.tmod x3 10))))))]).length) 140737488355328) then noonbellref01_Nat_Text.l9 n [m0] m [.list 1 l0, .list 1 (l1 ++ (elemsOf 1 (.int .u8 0) [(0, (.int .u8 (Go.IntKind.wrap .u8 (Go.IntKind.wrap .i64 (48 + (Int.tmod x3 10))))))])), .int .i64 x2, .int .i64 (Go.IntKind.wrap .i64 (Int.tdiv x3 10)), .int .i64 (Go.IntKind.wrap .i64 (x4 + 1))]
       else none)
     else 
      (bif (decide ((Go.IntKind.wrap .i64 (x2 + 1)) < (l0.length : Int))) then 
        (bif (Nat.ble (l1.length + (elemsOf 1 (.int .u8 0) [(0, (.int .u8 (Go.IntKind.wrap .u8 (Go.IntKind.wrap .i64 (48 + (Int.tmod x3 10))))))]).length) 140737488355328) then noonbellref01_Nat_Text.l9 n [m0] m [.list 1 l0, .list 1 (l1 ++ (elemsOf 1 (.int .u8 0) [(0, (.int .u8 (Go.IntKind.wrap .u8 (Go.IntKind.wrap .i64 (48 + (Int.tmod x3 10))))))])), .int .i64 x2, .int .i64 (Go.IntKind.wrap .i64 (Int.tdiv x3 10)), .int .i64 (Go.IntKind.wrap .i64 (x4 + 1))]
         else none)
       else noonbellref01_Nat_Text.l5 n [] m0 [.list 1 l0, .list 1 l1, .int .i64 (Go.IntKind.wrap .i64 (x2 + 1))]))
   else noonbellref01_Nat_Text.l5 n [] m0 [.list 1 l0, .list 1 l1, .int .i64 (Go.IntKind.wrap .i64 (x2 + 1))]) := by kernel_rfl
theorem noonbellref01_Nat_Text.l15_eq (n m : Nat) (l0 : List FV) (l1 : List FV) (x2 : Int) : noonbellref01_Nat_Text.l15 n [] (m + 1) [.list 1 l0, .list 1 l1, .int .i64 x2] = 
  (bif (decide (x2 ≥ 0)) then (ix x2 l0.length).bind fun i0 => (asInt .u8 (at' l0 i0 0)).bind fun n1 => 
    (bif (Nat.ble (l1.length + (elemsOf 1 (.int .u8 0) [(0, (.int .u8 n1))]).length) 140737488355328) then noonbellref01_Nat_Text.l15 n [] m [.list 1 l0, .list 1 (l1 ++ (elemsOf 1 (.int .u8 0) [(0, (.int .u8 n1))])), .int .i64 (Go.IntKind.wrap .i64 (x2 - 1))]
     else none)
   else (bytesO l1).bind fun u2 => some [.str u2]) := by kernel_rfl
theorem noonbellref01_Nat_Text_eq (n : Nat) (l0 : List FV) : evF En (n + 1) 68 [.list 1 l0] = 
  (bif ((l0.length : Int) == 0) then some [.str { data := #[48] }]
   else noonbellref01_Nat_Text.l5 n [] n [.list 1 l0, .list 1 (elemsOf 0 (.int .u8 0) []), .int .i64 0]) := by kernel_rfl
noncomputable def noonbellref01_Parse.l4 (n : Nat) (ms : List Nat) (m : Nat) (L : List FV) : Res := Lp En n 72 [1, 1, 0, 1, 0] ms m L
noncomputable def noonbellref01_Parse.l10 (n : Nat) (ms : List Nat) (m : Nat) (L : List FV) : Res := Lp En n 72 [1, 1, 1, 1, 0, 1, 0] ms m L
noncomputable def noonbellref01_Parse.l14 (n : Nat) (ms : List Nat) (m : Nat) (L : List FV) : Res := Lp En n 72 [1, 1, 1, 1, 0, 1, 0, 0, 1, 0, 0, 1, 0, 1, 0] ms m L
theorem noonbellref01_Parse.l4_eq (n m : Nat) (l0 : List FV) (s1 : ByteArray) (x2 : Int) : noonbellref01_Parse.l4 n [] (m + 1) [.list 1 l0, .str s1, .int .i64 x2] = 
  (bif (decide (x2 < (s1.size : Int))) then (strAt s1 x2).bind fun n0 => 
    (bif (decide (n0 < 48)) then some [.list 1 [], .int .i64 10]
     else (strAt s1 x2).bind fun n1 => 
      (bif (decide (n1 > 57)) then some [.list 1 [], .int .i64 10]
       else noonbellref01_Parse.l4 n [] m [.list 1 l0, .str s1, .int .i64 (Go.IntKind.wrap .i64 (x2 + 1))]))
   else noonbellref01_Parse.l10 n [] n [.list 1 l0, .str s1, .list 1 (elemsOf 0 (.int .i64 0) []), .int .i64 (s1.size : Int)]) := by kernel_rfl
theorem noonbellref01_Parse.l10_eq (n m : Nat) (l0 : List FV) (s1 : ByteArray) (l2 : List FV) (x3 : Int) : noonbellref01_Parse.l10 n [] (m + 1) [.list 1 l0, .str s1, .list 1 l2, .int .i64 x3] = 
  (bif (decide (x3 > 0)) then noonbellref01_Parse.l14 n [m] n [.list 1 l0, .str s1, .list 1 l2, .int .i64 x3, .int .i64 0, .int .i64 (if 0 < (Go.IntKind.wrap .i64 (x3 - 9)) then (Go.IntKind.wrap .i64 (x3 - 9)) else 0)]
   else (evF En n 118 [.list 1 l2]).bind fun r0 => (asLst 1 (r0[0]?)).bind fun v1 => some [.list 1 v1, .int .i64 0]) := by kernel_rfl
theorem noonbellref01_Parse.l14_eq (n m m0 : Nat) (l0 : List FV) (s1 : ByteArray) (l2 : List FV) (x3 : Int) (x4 : Int) (x5 : Int) : noonbellref01_Parse.l14 n [m0] (m + 1) [.list 1 l0, .str s1, .list 1 l2, .int .i64 x3, .int .i64 x4, .int .i64 x5] = 
  (bif (decide (x5 < x3)) then (strAt s1 x5).bind fun n0 => noonbellref01_Parse.l14 n [m0] m [.list 1 l0, .str s1, .list 1 l2, .int .i64 x3, .int .i64 (Go.IntKind.wrap .i64 ((Go.IntKind.wrap .i64 (x4 * 10)) + (Go.IntKind.wrap .i64 (Go.IntKind.wrap .u8 (n0 - 48))))), .int .i64 (Go.IntKind.wrap .i64 (x5 + 1))]
   else 
    (bif (Nat.ble (l2.length + (elemsOf 1 (.int .i64 0) [(0, (.int .i64 x4))]).length) 17592186044416) then noonbellref01_Parse.l10 n [] m0 [.list 1 l0, .str s1, .list 1 (l2 ++ (elemsOf 1 (.int .i64 0) [(0, (.int .i64 x4))])), .int .i64 (Go.IntKind.wrap .i64 (x3 - 9))]
     else none)) := by kernel_rfl
theorem noonbellref01_Parse_eq (n : Nat) (s0 : ByteArray) : evF En (n + 1) 72 [.str s0] = 
  (bif ((s0.size : Int) == 0) then some [.list 1 [], .int .i64 10]
   else 
    (bif (decide ((s0.size : Int) > 1)) then (strAt s0 0).bind fun n0 => 
      (bif (n0 == 48) then some [.list 1 [], .int .i64 10]
       else noonbellref01_Parse.l4 n [] n [.list 1 [], .str s0, .int .i64 0])
     else noonbellref01_Parse.l4 n [] n [.list 1 [], .str s0, .int .i64 0])) := by kernel_rfl
noncomputable def noonbellref01_Nat_Add.l4 (n : Nat) (ms : List Nat) (m : Nat) (L : List FV) : Res := Lp En n 73 [1, 1, 1, 0, 1, 0] ms m L
theorem noonbellref01_Nat_Add.l4_eq (n m : Nat) (l0 : List FV) (l1 : List FV) (l2 : List FV) (l3 : List FV) (x4 : Int) (x5 : Int) : noonbellref01_Nat_Add.l4 n [] (m + 1) [.list 1 l0, .list 1 l1, .list 1 l2, .list 1 l3, .int .i64 x4, .int .i64 x5] = 
  (bif (decide (x5 < (l0.length : Int))) then (evF En n 119 [.list 1 l0, .int .i64 x5]).bind fun r0 => (asInt .i64 (r0[0]?)).bind fun n1 => (evF En n 119 [.list 1 l1, .int .i64 x5]).bind fun r2 => (asInt .i64 (r2[0]?)).bind fun n3 => 
    (bif (Nat.ble (l3.length + (elemsOf 1 (.int .i64 0) [(0, (.int .i64 (Int.tmod (Go.IntKind.wrap .i64 ((Go.IntKind.wrap .i64 (x4 + n1)) + n3)) 1000000000)))]).length) 17592186044416) then noonbellref01_Nat_Add.l4 n [] m [.list 1 l0, .list 1 l1, .list 1 l2, .list 1 (l3 ++ (elemsOf 1 (.int .i64 0) [(0, (.int .i64 (Int.tmod (Go.IntKind.wrap .i64 ((Go.IntKind.wrap .i64 (x4 + n1)) + n3)) 1000000000)))])), .int .i64 (Go.IntKind.wrap .i64 (Int.tdiv (Go.IntKind.wrap .i64 ((Go.IntKind.wrap .i64 (x4 + n1)) + n3)) 1000000000)), .int .i64 (Go.IntKind.wrap .i64 (x5 + 1))]
     else none)
   else 
    (bif (decide (x5 < (l1.length : Int))) then (evF En n 119 [.list 1 l0, .int .i64 x5]).bind fun r4 => (asInt .i64 (r4[0]?)).bind fun n5 => (evF En n 119 [.list 1 l1, .int .i64 x5]).bind fun r6 => (asInt .i64 (r6[0]?)).bind fun n7 => 
      (bif (Nat.ble (l3.length + (elemsOf 1 (.int .i64 0) [(0, (.int .i64 (Int.tmod (Go.IntKind.wrap .i64 ((Go.IntKind.wrap .i64 (x4 + n5)) + n7)) 1000000000)))]).length) 17592186044416) then noonbellref01_Nat_Add.l4 n [] m [.list 1 l0, .list 1 l1, .list 1 l2, .list 1 (l3 ++ (elemsOf 1 (.int .i64 0) [(0, (.int .i64 (Int.tmod (Go.IntKind.wrap .i64 ((Go.IntKind.wrap .i64 (x4 + n5)) + n7)) 1000000000)))])), .int .i64 (Go.IntKind.wrap .i64 (Int.tdiv (Go.IntKind.wrap .i64 ((Go.IntKind.wrap .i64 (x4 + n5)) + n7)) 1000000000)), .int .i64 (Go.IntKind.wrap .i64 (x5 + 1))]
       else none)
     else 
      (bif (Nat.ble (l3.length + (elemsOf 1 (.int .i64 0) [(0, (.int .i64 x4))]).length) 17592186044416) then (evF En n 118 [.list 1 (l3 ++ (elemsOf 1 (.int .i64 0) [(0, (.int .i64 x4))]))]).bind fun r8 => (asLst 1 (r8[0]?)).bind fun v9 => some [.list 1 v9]
       else none))) := by kernel_rfl
theorem noonbellref01_Nat_Add_eq (n : Nat) (l0 : List FV) (l1 : List FV) : evF En (n + 1) 73 [.list 1 l0, .list 1 l1] = noonbellref01_Nat_Add.l4 n [] n [.list 1 l0, .list 1 l1, .list 1 [], .list 1 (elemsOf 0 (.int .i64 0) []), .int .i64 0, .int .i64 0] := by kernel_rfl
noncomputable def noonbellref01_Nat_Cmp.l2 (n : Nat) (ms : List Nat) (m : Nat) (L : List FV) : Res := Lp En n 74 [1, 0, 1, 0] ms m L
theorem noonbellref01_Nat_Cmp.l2_eq (n m : Nat) (l0 : List FV) (l1 : List FV) (x2 : Int) : noonbellref01_Nat_Cmp.l2 n [] (m + 1) [.list 1 l0, .list 1 l1, .int .i64 x2] = 
  (bif (decide (x2 ≥ 0)) then (evF En n 119 [.list 1 l0, .int .i64 x2]).bind fun r0 => (asInt .i64 (r0[0]?)).bind fun n1 => (evF En n 119 [.list 1 l1, .int .i64 x2]).bind fun r2 => (asInt .i64 (r2[0]?)).bind fun n3 => 
    (bif (decide (n1 < n3)) then some [.int .i64 (-1)]
     else (evF En n 119 [.list 1 l0, .int .i64 x2]).bind fun r4 => (asInt .i64 (r4[0]?)).bind fun n5 => (evF En n 119 [.list 1 l1, .int .i64 x2]).bind fun r6 => (asInt .i64 (r6[0]?)).bind fun n7 => 
      (bif (decide (n5 > n7)) then some [.int .i64 1]
       else noonbellref01_Nat_Cmp.l2 n [] m [.list 1 l0, .list 1 l1, .int .i64 (Go.IntKind.wrap .i64 (x2 - 1))]))
   else some [.int .i64 0]) := by kernel_rfl
theorem noonbellref01_Nat_Cmp_eq (n : Nat) (l0 : List FV) (l1 : List FV) : evF En (n + 1) 74 [.list 1 l0, .list 1 l1] = noonbellref01_Nat_Cmp.l2 n [] n [.list 1 l0, .list 1 l1, .int .i64 (Go.IntKind.wrap .i64 ((if (l0.length : Int) < (l1.length : Int) then (l1.length : Int) else (l0.length : Int)) - 1))] := by kernel_rfl
noncomputable def noonbellref01_Nat_Sub.l6 (n : Nat) (ms : List Nat) (m : Nat) (L : List FV) : Res := Lp En n 75 [1, 1, 1, 1, 0, 1, 0] ms m L
theorem noonbellref01_Nat_Sub.l6_eq (n m : Nat) (l0 : List FV) (l1 : List FV) (l2 : List FV) (l3 : List FV) (x4 : Int) (x5 : Int) : noonbellref01_Nat_Sub.l6 n [] (m + 1) [.list 1 l0, .list 1 l1, .list 1 l2, .list 1 l3, .int .i64 x4, .int .i64 x5] = 
  (bif (decide (x5 < (l0.length : Int))) then (ix x5 l0.length).bind fun i0 => (asInt .i64 (at' l0 i0 0)).bind fun n1 => (evF En n 119 [.list 1 l1, .int .i64 x5]).bind fun r2 => (asInt .i64 (r2[0]?)).bind fun n3 => 
    (bif (decide ((Go.IntKind.wrap .i64 ((Go.IntKind.wrap .i64 (n1 - n3)) - x4)) < 0)) then 
      (bif (Nat.ble (l3.length + (elemsOf 1 (.int .i64 0) [(0, (.int .i64 (Go.IntKind.wrap .i64 ((Go.IntKind.wrap .i64 ((Go.IntKind.wrap .i64 (n1 - n3)) - x4)) + 1000000000))))]).length) 17592186044416) then noonbellref01_Nat_Sub.l6 n [] m [.list 1 l0, .list 1 l1, .list 1 l2, .list 1 (l3 ++ (elemsOf 1 (.int .i64 0) [(0, (.int .i64 (Go.IntKind.wrap .i64 ((Go.IntKind.wrap .i64 ((Go.IntKind.wrap .i64 (n1 - n3)) - x4)) + 1000000000))))])), .int .i64 1, .int .i64 (Go.IntKind.wrap .i64 (x5 + 1))]
       else none)
     else 
      (bif (Nat.ble (l3.length + (elemsOf 1 (.int .i64 0) [(0, (.int .i64 (Go.IntKind.wrap .i64 ((Go.IntKind.wrap .i64 (n1 - n3)) - x4))))]).length) 17592186044416) then noonbellref01_Nat_Sub.l6 n [] m [.list 1 l0, .list 1 l1, .list 1 l2, .list 1 (l3 ++ (elemsOf 1 (.int .i64 0) [(0, (.int .i64 (Go.IntKind.wrap .i64 ((Go.IntKind.wrap .i64 (n1 - n3)) - x4))))])), .int .i64 0, .int .i64 (Go.IntKind.wrap .i64 (x5 + 1))]
       else none))
   else (evF En n 118 [.list 1 l3]).bind fun r4 => (asLst 1 (r4[0]?)).bind fun v5 => some [.list 1 v5, .int .i64 0]) := by kernel_rfl
theorem noonbellref01_Nat_Sub_eq (n : Nat) (l0 : List FV) (l1 : List FV) : evF En (n + 1) 75 [.list 1 l0, .list 1 l1] = (evF En n 74 [.list 1 l0, .list 1 l1]).bind fun r0 => (asInt .i64 (r0[0]?)).bind fun n1 => 
  (bif (decide (n1 < 0)) then some [.list 1 [], .int .i64 11]
   else noonbellref01_Nat_Sub.l6 n [] n [.list 1 l0, .list 1 l1, .list 1 [], .list 1 (elemsOf 0 (.int .i64 0) []), .int .i64 0, .int .i64 0]) := by kernel_rfl
noncomputable def noonbellref01_trim.l1 (n : Nat) (ms : List Nat) (m : Nat) (L : List FV) : Res := Lp En n 118 [1, 0, 0] ms m L
theorem noonbellref01_trim.l1_eq (n m : Nat) (l0 : List FV) (l1 : List FV) : noonbellref01_trim.l1 n [] (m + 1) [.list 1 l0, .list 1 l1] = 
  (bif (decide ((l1.length : Int) > 0)) then (ix (Go.IntKind.wrap .i64 ((l1.length : Int) - 1)) l1.length).bind fun i0 => (asInt .i64 (at' l1 i0 0)).bind fun n1 => 
    (bif (n1 == 0) then (bd (Go.IntKind.wrap .i64 ((l1.length : Int) - 1)) l1.length).bind fun i2 => noonbellref01_trim.l1 n [] m [.list 1 l0, .list 1 (List.drop 0 (List.take i2 l1))]
     else some [.list 1 l1])
   else some [.list 1 l1]) := by kernel_rfl
theorem noonbellref01_trim_eq (n : Nat) (l0 : List FV) : evF En (n + 1) 118 [.list 1 l0] = noonbellref01_trim.l1 n [] n [.list 1 [], .list 1 l0] := by kernel_rfl
theorem noonbellref01_digit_eq (n : Nat) (l0 : List FV) (x1 : Int) : evF En (n + 1) 119 [.list 1 l0, .int .i64 x1] = 
  (bif (decide (x1 < (l0.length : Int))) then (ix x1 l0.length).bind fun i0 => (asInt .i64 (at' l0 i0 0)).bind fun n1 => some [.int .i64 n1]
   else some [.int .i64 0]) := by kernel_rfl
noncomputable def noonbellref01_Nat_Gcd.l1 (n : Nat) (ms : List Nat) (m : Nat) (L : List FV) : Res := Lp En n 130 [1, 0, 0] ms m L
theorem noonbellref01_Nat_Gcd.l1_eq (n m : Nat) (l0 : List FV) (l1 : List FV) (l2 : List FV) : noonbellref01_Nat_Gcd.l1 n [] (m + 1) [.list 1 l0, .list 1 l1, .list 1 l2] = 
  (bif (decide ((l1.length : Int) > 0)) then 
    (bif (decide ((l0.length : Int) ≤ 2)) then 
      (bif (decide ((l1.length : Int) ≤ 2)) then (evF En n 167 [.list 1 l0]).bind fun r0 => (asInt .u64 (r0[0]?)).bind fun n1 => (evF En n 167 [.list 1 l1]).bind fun r2 => (asInt .u64 (r2[0]?)).bind fun n3 => (evF En n 166 [.int .u64 n1, .int .u64 n3]).bind fun r4 => (asInt .u64 (r4[0]?)).bind fun n5 => (evF En n 65 [.int .u64 n5]).bind fun r6 => (asLst 1 (r6[0]?)).bind fun v7 => some [.list 1 v7]
       else (evF En n 168 [.list 1 l0, .list 1 l1]).bind fun r8 => (asLst 1 (r8[0]?)).bind fun v9 => (asLst 1 (r8[1]?)).bind fun v10 => (asInt .i64 (r8[2]?)).bind fun n11 => noonbellref01_Nat_Gcd.l1 n [] m [.list 1 l1, .list 1 v10, .list 1 l2])
     else (evF En n 168 [.list 1 l0, .list 1 l1]).bind fun r12 => (asLst 1 (r12[0]?)).bind fun v13 => (asLst 1 (r12[1]?)).bind fun v14 => (asInt .i64 (r12[2]?)).bind fun n15 => noonbellref01_Nat_Gcd.l1 n [] m [.list 1 l1, .list 1 v14, .list 1 l2])
   else some [.list 1 l0]) := by kernel_rfl
theorem noonbellref01_Nat_Gcd_eq (n : Nat) (l0 : List FV) (l1 : List FV) : evF En (n + 1) 130 [.list 1 l0, .list 1 l1] = noonbellref01_Nat_Gcd.l1 n [] n [.list 1 l0, .list 1 l1, .list 1 []] := by kernel_rfl
noncomputable def noonbellref01_Nat_Mul.l5 (n : Nat) (ms : List Nat) (m : Nat) (L : List FV) : Res := Lp En n 132 [1, 1, 1, 0, 1, 0] ms m L
noncomputable def noonbellref01_Nat_Mul.l9 (n : Nat) (ms : List Nat) (m : Nat) (L : List FV) : Res := Lp En n 132 [1, 1, 1, 0, 1, 0, 0, 1, 0, 0, 1, 0, 1, 0] ms m L
theorem noonbellref01_Nat_Mul.l5_eq (n m : Nat) (l0 : List FV) (l1 : List FV) (l2 : List FV) (l3 : List FV) (x4 : Int) : noonbellref01_Nat_Mul.l5 n [] (m + 1) [.list 1 l0, .list 1 l1, .list 1 l2, .list 1 l3, .int .i64 x4] = 
  (bif (decide (x4 < (l0.length : Int))) then noonbellref01_Nat_Mul.l9 n [m] n [.list 1 l0, .list 1 l1, .list 1 l2, .list 1 l3, .int .i64 x4, .int .i64 0, .int .i64 0]
   else (evF En n 118 [.list 1 l3]).bind fun r0 => (asLst 1 (r0[0]?)).bind fun v1 => some [.list 1 v1]) := by kernel_rfl
theorem noonbellref01_Nat_Mul.l9_eq (n m m0 : Nat) (l0 : List FV) (l1 : List FV) (l2 : List FV) (l3 : List FV) (x4 : Int) (x5 : Int) (x6 : Int) : noonbellref01_Nat_Mul.l9 n [m0] (m + 1) [.list 1 l0, .list 1 l1, .list 1 l2, .list 1 l3, .int .i64 x4, .int .i64 x5, .int .i64 x6] = 
  (bif (decide (x6 < (l1.length : Int))) then (ix (Go.IntKind.wrap .i64 (x4 + x6)) l3.length).bind fun i0 => (asInt .i64 (at' l3 i0 0)).bind fun n1 => (ix x4 l0.length).bind fun i2 => (asInt .i64 (at' l0 i2 0)).bind fun n3 => (ix x6 l1.length).bind fun i4 => (asInt .i64 (at' l1 i4 0)).bind fun n5 => (ix (Go.IntKind.wrap .i64 (x4 + x6)) l3.length).bind fun i6 => noonbellref01_Nat_Mul.l9 n [m0] m [.list 1 l0, .list 1 l1, .list 1 l2, .list 1 (List.set l3 i6 (.int .i64 (Int.tmod (Go.IntKind.wrap .i64 ((Go.IntKind.wrap .i64 (x5 + n1)) + (Go.IntKind.wrap .i64 (n3 * n5)))) 1000000000))), .int .i64 x4, .int .i64 (Go.IntKind.wrap .i64 (Int.tdiv (Go.IntKind.wrap .i64 ((Go.IntKind.wrap .i64 (x5 + n1)) + (Go.IntKind.wrap .i64 (n3 * n5)))) 1000000000)), .int .i64 (Go.IntKind.wrap .i64 (x6 + 1))]
   else (ix (Go.IntKind.wrap .i64 (x4 + (l1.length : Int))) l3.length).bind fun i7 => noonbellref01_Nat_Mul.l5 n [] m0 [.list 1 l0, .list 1 l1, .list 1 l2, .list 1 (List.set l3 i7 (.int .i64 x5)), .int .i64 (Go.IntKind.wrap .i64 (x4 + 1))]) := by kernel_rfl
theorem noonbellref01_Nat_Mul_eq (n : Nat) (l0 : List FV) (l1 : List FV) : evF En (n + 1) 132 [.list 1 l0, .list 1 l1] = 
  (bif ((l0.length : Int) == 0) then some [.list 1 []]
   else 
    (bif ((l1.length : Int) == 0) then some [.list 1 []]
     else (mkLen 8 (Go.IntKind.wrap .i64 ((l0.length : Int) + (l1.length : Int)))).bind fun i0 => (bd (Go.IntKind.wrap .i64 ((l0.length : Int) + (l1.length : Int))) i0).bind fun i1 => noonbellref01_Nat_Mul.l5 n [] n [.list 1 l0, .list 1 l1, .list 1 [], .list 1 (List.replicate i1 (.int .i64 0 : FV)), .int .i64 0])) := by kernel_rfl
noncomputable def noonbellref01_gcd.l1 (n : Nat) (ms : List Nat) (m : Nat) (L : List FV) : Res := Lp En n 166 [1, 0, 0] ms m L
theorem noonbellref01_gcd.l1_eq (n m : Nat) (x0 : Int) (x1 : Int) : noonbellref01_gcd.l1 n [] (m + 1) [.int .u64 x0, .int .u64 x1] = 
  (bif (decide (x1 > 0)) then 
    (bif (decide (x1 = 0)) then none
     else noonbellref01_gcd.l1 n [] m [.int .u64 x1, .int .u64 (Int.tmod x0 x1)])
   else some [.int .u64 x0]) := by kernel_rfl
theorem noonbellref01_gcd_eq (n : Nat) (x0 : Int) (x1 : Int) : evF En (n + 1) 166 [.int .u64 x0, .int .u64 x1] = noonbellref01_gcd.l1 n [] n [.int .u64 x0, .int .u64 x1] := by kernel_rfl
noncomputable def noonbellref01_word.l3 (n : Nat) (ms : List Nat) (m : Nat) (L : List FV) : Res := Lp En n 167 [1, 1, 0, 1, 0] ms m L
theorem noonbellref01_word.l3_eq (n m : Nat) (l0 : List FV) (x1 : Int) (x2 : Int) : noonbellref01_word.l3 n [] (m + 1) [.list 1 l0, .int .u64 x1, .int .i64 x2] = 
  (bif (decide (x2 ≥ 0)) then (ix x2 l0.length).bind fun i0 => (asInt .i64 (at' l0 i0 0)).bind fun n1 => noonbellref01_word.l3 n [] m [.list 1 l0, .int .u64 (Go.IntKind.wrap .u64 ((Go.IntKind.wrap .u64 (x1 * 1000000000)) + (Go.IntKind.wrap .u64 n1))), .int .i64 (Go.IntKind.wrap .i64 (x2 - 1))]
   else some [.int .u64 x1]) := by kernel_rfl
theorem noonbellref01_word_eq (n : Nat) (l0 : List FV) : evF En (n + 1) 167 [.list 1 l0] = noonbellref01_word.l3 n [] n [.list 1 l0, .int .u64 0, .int .i64 (Go.IntKind.wrap .i64 ((l0.length : Int) - 1))] := by kernel_rfl
noncomputable def noonbellref01_Nat_DivMod.l9 (n : Nat) (ms : List Nat) (m : Nat) (L : List FV) : Res := Lp En n 168 [1, 1, 1, 1, 1, 0, 1, 0] ms m L
theorem noonbellref01_Nat_DivMod.l9_eq (n m : Nat) (l0 : List FV) (l1 : List FV) (l2 : List FV) (l3 : List FV) (l4 : List FV) (l5 : List FV) (x6 : Int) : noonbellref01_Nat_DivMod.l9 n [] (m + 1) [.list 1 l0, .list 1 l1, .list 1 l2, .list 1 l3, .list 1 l4, .list 1 l5, .int .i64 x6] = 
  (bif (decide (x6 ≥ 0)) then (ix x6 l0.length).bind fun i0 => (asInt .i64 (at' l0 i0 0)).bind fun n1 => (evF En n 210 [.list 1 l4, .int .i64 n1]).bind fun r2 => (asLst 1 (r2[0]?)).bind fun v3 => (evF En n 211 [.list 1 v3, .list 1 l1]).bind fun r4 => (asInt .i64 (r4[0]?)).bind fun n5 => (ix x6 l5.length).bind fun i6 => (ix x6 (List.set l5 i6 (.int .i64 n5)).length).bind fun i7 => (asInt .i64 (at' (List.set l5 i6 (.int .i64 n5)) i7 0)).bind fun n8 => (evF En n 212 [.list 1 l1, .int .i64 n8, .int .i64 0]).bind fun r9 => (asLst 1 (r9[0]?)).bind fun v10 => (evF En n 75 [.list 1 v3, .list 1 v10]).bind fun r11 => (asLst 1 (r11[0]?)).bind fun v12 => (asInt .i64 (r11[1]?)).bind fun n13 => noonbellref01_Nat_DivMod.l9 n [] m [.list 1 l0, .list 1 l1, .list 1 l2, .list 1 l3, .list 1 v12, .list 1 (List.set l5 i6 (.int .i64 n5)), .int .i64 (Go.IntKind.wrap .i64 (x6 - 1))]
   else (evF En n 118 [.list 1 l5]).bind fun r14 => (asLst 1 (r14[0]?)).bind fun v15 => some [.list 1 v15, .list 1 l4, .int .i64 0]) := by kernel_rfl
theorem noonbellref01_Nat_DivMod_eq (n : Nat) (l0 : List FV) (l1 : List FV) : evF En (n + 1) 168 [.list 1 l0, .list 1 l1] = 
  (bif ((l1.length : Int) == 0) then some [.list 1 [], .list 1 [], .int .i64 12]
   else 
    (bif ((l1.length : Int) == 1) then (ix 0 l1.length).bind fun i0 => (asInt .i64 (at' l1 i0 0)).bind fun n1 => (evF En n 209 [.list 1 l0, .int .i64 n1]).bind fun r2 => (asLst 1 (r2[0]?)).bind fun v3 => (asLst 1 (r2[1]?)).bind fun v4 => some [.list 1 v3, .list 1 v4, .int .i64 0]
     else (mkLen 8 (l0.length : Int)).bind fun i5 => (bd (l0.length : Int) i5).bind fun i6 => noonbellref01_Nat_DivMod.l9 n [] n [.list 1 l0, .list 1 l1, .list 1 [], .list 1 [], .list 1 [], .list 1 (List.replicate i6 (.int .i64 0 : FV)), .int .i64 (Go.IntKind.wrap .i64 ((l0.length : Int) - 1))])) := by kernel_rfl
noncomputable def noonbellref01_one.l4 (n : Nat) (ms : List Nat) (m : Nat) (L : List FV) : Res := Lp En n 209 [1, 1, 1, 0, 1, 0] ms m L
theorem noonbellref01_one.l4_eq (n m : Nat) (l0 : List FV) (l1 : List FV) (l2 : List FV) (x3 : Int) (l4 : List FV) (x5 : Int) (x6 : Int) : noonbellref01_one.l4 n [] (m + 1) [.list 1 l0, .list 1 l1, .list 1 l2, .int .i64 x3, .list 1 l4, .int .i64 x5, .int .i64 x6] = 
  (bif (decide (x6 ≥ 0)) then (ix x6 l0.length).bind fun i0 => (asInt .i64 (at' l0 i0 0)).bind fun n1 => 
    (bif (decide (x3 = 0)) then none
     else (ix x6 l4.length).bind fun i2 => 
      (bif (decide (x3 = 0)) then none
       else noonbellref01_one.l4 n [] m [.list 1 l0, .list 1 l1, .list 1 l2, .int .i64 x3, .list 1 (List.set l4 i2 (.int .i64 (Go.IntKind.wrap .i64 (Int.tdiv (Go.IntKind.wrap .i64 ((Go.IntKind.wrap .i64 (x5 * 1000000000)) + n1)) x3)))), .int .i64 (Int.tmod (Go.IntKind.wrap .i64 ((Go.IntKind.wrap .i64 (x5 * 1000000000)) + n1)) x3), .int .i64 (Go.IntKind.wrap .i64 (x6 - 1))]))
   else (evF En n 118 [.list 1 l4]).bind fun r3 => (asLst 1 (r3[0]?)).bind fun v4 => (evF En n 65 [.int .u64 (Go.IntKind.wrap .u64 x5)]).bind fun r5 => (asLst 1 (r5[0]?)).bind fun v6 => some [.list 1 v4, .list 1 v6]) := by kernel_rfl
theorem noonbellref01_one_eq (n : Nat) (l0 : List FV) (x1 : Int) : evF En (n + 1) 209 [.list 1 l0, .int .i64 x1] = (mkLen 8 (l0.length : Int)).bind fun i0 => (bd (l0.length : Int) i0).bind fun i1 => noonbellref01_one.l4 n [] n [.list 1 l0, .list 1 [], .list 1 [], .int .i64 x1, .list 1 (List.replicate i1 (.int .i64 0 : FV)), .int .i64 0, .int .i64 (Go.IntKind.wrap .i64 ((l0.length : Int) - 1))] := by kernel_rfl
theorem noonbellref01_small2_eq (n : Nat) (l0 : List FV) (x1 : Int) : evF En (n + 1) 210 [.list 1 l0, .int .i64 x1] = 
  (bif (Nat.ble ((elemsOf 1 (.int .i64 0) [(0, (.int .i64 x1))]).length + l0.length) 17592186044416) then (evF En n 118 [.list 1 ((elemsOf 1 (.int .i64 0) [(0, (.int .i64 x1))]) ++ l0)]).bind fun r0 => (asLst 1 (r0[0]?)).bind fun v1 => some [.list 1 v1]
   else none) := by kernel_rfl
noncomputable def noonbellref01_times.l3 (n : Nat) (ms : List Nat) (m : Nat) (L : List FV) : Res := Lp En n 211 [1, 1, 1, 0, 0] ms m L
theorem noonbellref01_times.l3_eq (n m : Nat) (l0 : List FV) (l1 : List FV) (x2 : Int) (x3 : Int) : noonbellref01_times.l3 n [] (m + 1) [.list 1 l0, .list 1 l1, .int .i64 x2, .int .i64 x3] = 
  (bif (decide (x2 < x3)) then (evF En n 212 [.list 1 l1, .int .i64 (Go.IntKind.wrap .i64 (Int.tdiv (Go.IntKind.wrap .i64 ((Go.IntKind.wrap .i64 (x2 + x3)) + 1)) 2)), .int .i64 0]).bind fun r0 => (asLst 1 (r0[0]?)).bind fun v1 => (evF En n 74 [.list 1 v1, .list 1 l0]).bind fun r2 => (asInt .i64 (r2[0]?)).bind fun n3 => 
    (bif (decide (n3 ≤ 0)) then noonbellref01_times.l3 n [] m [.list 1 l0, .list 1 l1, .int .i64 (Go.IntKind.wrap .i64 (Int.tdiv (Go.IntKind.wrap .i64 ((Go.IntKind.wrap .i64 (x2 + x3)) + 1)) 2)), .int .i64 x3]
     else noonbellref01_times.l3 n [] m [.list 1 l0, .list 1 l1, .int .i64 x2, .int .i64 (Go.IntKind.wrap .i64 ((Go.IntKind.wrap .i64 (Int.tdiv (Go.IntKind.wrap .i64 ((Go.IntKind.wrap .i64 (x2 + x3)) + 1)) 2)) - 1))])
   else some [.int .i64 x2]) := by kernel_rfl
theorem noonbellref01_times_eq (n : Nat) (l0 : List FV) (l1 : List FV) : evF En (n + 1) 211 [.list 1 l0, .list 1 l1] = noonbellref01_times.l3 n [] n [.list 1 l0, .list 1 l1, .int .i64 0, .int .i64 999999999] := by kernel_rfl
noncomputable def noonbellref01_small.l3 (n : Nat) (ms : List Nat) (m : Nat) (L : List FV) : Res := Lp En n 212 [1, 1, 0, 1, 0] ms m L
theorem noonbellref01_small.l3_eq (n m : Nat) (l0 : List FV) (l1 : List FV) (x2 : Int) (x3 : Int) (l4 : List FV) (x5 : Int) : noonbellref01_small.l3 n [] (m + 1) [.list 1 l0, .list 1 l1, .int .i64 x2, .int .i64 x3, .list 1 l4, .int .i64 x5] = 
  (bif (decide (x5 < (l0.length : Int))) then (ix x5 l0.length).bind fun i0 => (asInt .i64 (at' l0 i0 0)).bind fun n1 => 
    (bif (Nat.ble (l4.length + (elemsOf 1 (.int .i64 0) [(0, (.int .i64 (Int.tmod (Go.IntKind.wrap .i64 (x3 + (Go.IntKind.wrap .i64 (n1 * x2)))) 1000000000)))]).length) 17592186044416) then noonbellref01_small.l3 n [] m [.list 1 l0, .list 1 l1, .int .i64 x2, .int .i64 (Go.IntKind.wrap .i64 (Int.tdiv (Go.IntKind.wrap .i64 (x3 + (Go.IntKind.wrap .i64 (n1 * x2)))) 1000000000)), .list 1 (l4 ++ (elemsOf 1 (.int .i64 0) [(0, (.int .i64 (Int.tmod (Go.IntKind.wrap .i64 (x3 + (Go.IntKind.wrap .i64 (n1 * x2)))) 1000000000)))])), .int .i64 (Go.IntKind.wrap .i64 (x5 + 1))]
     else none)
   else 
    (bif (Nat.ble (l4.length + (elemsOf 1 (.int .i64 0) [(0, (.int .i64 x3))]).length) 17592186044416) then (evF En n 118 [.list 1 (l4 ++ (elemsOf 1 (.int .i64 0) [(0, (.int .i64 x3))]))]).bind fun r2 => (asLst 1 (r2[0]?)).bind fun v3 => some [.list 1 v3]
     else none)) := by kernel_rfl
theorem noonbellref01_small_eq (n : Nat) (l0 : List FV) (x1 : Int) (x2 : Int) : evF En (n + 1) 212 [.list 1 l0, .int .i64 x1, .int .i64 x2] = noonbellref01_small.l3 n [] n [.list 1 l0, .list 1 [], .int .i64 x1, .int .i64 x2, .list 1 (elemsOf 0 (.int .i64 0) []), .int .i64 0] := by kernel_rfl

end Rf
end

section
/- Made by a program of this work: what each function comes to, one step of it; by the kernel. -/
set_option linter.unusedVariables false
set_option maxRecDepth 100000
set_option maxHeartbeats 4000000
namespace Rf
open Go

theorem noonbellref03_Of_eq (n : Nat) (x0 : Int) : evF En (n + 1) 14 [.int .i64 x0] = (evF En n 21 [.int .i64 x0]).bind fun r0 => (asBool (r0[0]?)).bind fun c1 => (asLst 1 (r0[1]?)).bind fun v2 => (evF En n 21 [.int .i64 1]).bind fun r3 => (asBool (r3[0]?)).bind fun c4 => (asLst 1 (r3[1]?)).bind fun v5 => some [.bool c1, .list 1 v2, .bool c4, .list 1 v5] := by kernel_rfl
theorem noonbellref03_Rat_Text_eq (n : Nat) (b0 : Bool) (l1 : List FV) (b2 : Bool) (l3 : List FV) : evF En (n + 1) 15 [.bool b0, .list 1 l1, .bool b2, .list 1 l3] = (evF En n 54 [.bool b0, .list 1 l1, .bool b2, .list 1 l3]).bind fun r0 => (asBool (r0[0]?)).bind fun c1 => (asLst 1 (r0[1]?)).bind fun v2 => (evF En n 23 [.bool c1, .list 1 v2]).bind fun r3 => (asStr (r3[0]?)).bind fun u4 => 
  (bif (u4.toList == ({ data := #[49] } : ByteArray).toList) then (evF En n 23 [.bool b0, .list 1 l1]).bind fun r5 => (asStr (r5[0]?)).bind fun u6 => some [.str u6]
   else (evF En n 23 [.bool b0, .list 1 l1]).bind fun r7 => (asStr (r7[0]?)).bind fun u8 => 
    (bif (decide (((u8.size + 1) : Int) > 9223372036854775807)) then none
     else (evF En n 54 [.bool b0, .list 1 l1, .bool b2, .list 1 l3]).bind fun r9 => (asBool (r9[0]?)).bind fun c10 => (asLst 1 (r9[1]?)).bind fun v11 => (evF En n 23 [.bool c10, .list 1 v11]).bind fun r12 => (asStr (r12[0]?)).bind fun u13 => 
      (bif (decide ((((u8 ++ { data := #[47] }).size + u13.size) : Int) > 9223372036854775807)) then none
       else some [.str ((u8 ++ { data := #[47] }) ++ u13)]))) := by kernel_rfl
theorem noonbellref02_Of_eq (n : Nat) (x0 : Int) : evF En (n + 1) 21 [.int .i64 x0] = 
  (bif (decide (x0 ≥ 0)) then (evF En n 65 [.int .u64 (Go.IntKind.wrap .u64 x0)]).bind fun r0 => (asLst 1 (r0[0]?)).bind fun v1 => (evF En n 64 [.bool false, .list 1 v1]).bind fun r2 => (asBool (r2[0]?)).bind fun c3 => (asLst 1 (r2[1]?)).bind fun v4 => some [.bool c3, .list 1 v4]
   else (evF En n 65 [.int .u64 (Go.IntKind.wrap .u64 ((Go.IntKind.wrap .u64 (Go.IntKind.wrap .i64 (0 - (Go.IntKind.wrap .i64 (x0 + 1))))) + 1))]).bind fun r5 => (asLst 1 (r5[0]?)).bind fun v6 => (evF En n 64 [.bool true, .list 1 v6]).bind fun r7 => (asBool (r7[0]?)).bind fun c8 => (asLst 1 (r7[1]?)).bind fun v9 => some [.bool c8, .list 1 v9]) := by kernel_rfl
theorem noonbellref02_Num_Text_eq (n : Nat) (b0 : Bool) (l1 : List FV) : evF En (n + 1) 23 [.bool b0, .list 1 l1] = 
  (bif b0 then (evF En n 68 [.list 1 l1]).bind fun r0 => (asStr (r0[0]?)).bind fun u1 => 
    (bif (decide (((1 + u1.size) : Int) > 9223372036854775807)) then none
     else some [.str ({ data := #[45] } ++ u1)])
   else (evF En n 68 [.list 1 l1]).bind fun r2 => (asStr (r2[0]?)).bind fun u3 => some [.str u3]) := by kernel_rfl
theorem noonbellref02_Num_Neg_eq (n : Nat) (b0 : Bool) (l1 : List FV) : evF En (n + 1) 24 [.bool b0, .list 1 l1] = (evF En n 64 [.bool (!b0), .list 1 l1]).bind fun r0 => (asBool (r0[0]?)).bind fun c1 => (asLst 1 (r0[1]?)).bind fun v2 => some [.bool c1, .list 1 v2] := by kernel_rfl
theorem noonbellref02_Parse_eq (n : Nat) (s0 : ByteArray) : evF En (n + 1) 31 [.str s0] = 
  (bif (decide ((s0.size : Int) > 0)) then (strAt s0 0).bind fun n0 => 
    (bif (n0 == 45) then (bd 1 s0.size).bind fun i1 => (evF En n 72 [.str (s0.extract i1 s0.size)]).bind fun r2 => (asLst 1 (r2[0]?)).bind fun v3 => (asInt .i64 (r2[1]?)).bind fun n4 => 
      (bif (n4 != 0) then some [.bool false, .list 1 [], .int .i64 10]
       else 
        (bif (n0 == 45) then 
          (bif ((v3.length : Int) == 0) then some [.bool false, .list 1 [], .int .i64 10]
           else (evF En n 64 [.bool (n0 == 45), .list 1 v3]).bind fun r5 => (asBool (r5[0]?)).bind fun c6 => (asLst 1 (r5[1]?)).bind fun v7 => some [.bool c6, .list 1 v7, .int .i64 0])
         else (evF En n 64 [.bool (n0 == 45), .list 1 v3]).bind fun r8 => (asBool (r8[0]?)).bind fun c9 => (asLst 1 (r8[1]?)).bind fun v10 => some [.bool c9, .list 1 v10, .int .i64 0]))
     else (evF En n 72 [.str s0]).bind fun r11 => (asLst 1 (r11[0]?)).bind fun v12 => (asInt .i64 (r11[1]?)).bind fun n13 => 
      (bif (n13 != 0) then some [.bool false, .list 1 [], .int .i64 10]
       else 
        (bif (n0 == 45) then 
          (bif ((v12.length : Int) == 0) then some [.bool false, .list 1 [], .int .i64 10]
           else (evF En n 64 [.bool (n0 == 45), .list 1 v12]).bind fun r14 => (asBool (r14[0]?)).bind fun c15 => (asLst 1 (r14[1]?)).bind fun v16 => some [.bool c15, .list 1 v16, .int .i64 0])
         else (evF En n 64 [.bool (n0 == 45), .list 1 v12]).bind fun r17 => (asBool (r17[0]?)).bind fun c18 => (asLst 1 (r17[1]?)).bind fun v19 => some [.bool c18, .list 1 v19, .int .i64 0])))
   else (evF En n 72 [.str s0]).bind fun r20 => (asLst 1 (r20[0]?)).bind fun v21 => (asInt .i64 (r20[1]?)).bind fun n22 => 
    (bif (n22 != 0) then some [.bool false, .list 1 [], .int .i64 10]
     else (evF En n 64 [.bool false, .list 1 v21]).bind fun r23 => (asBool (r23[0]?)).bind fun c24 => (asLst 1 (r23[1]?)).bind fun v25 => some [.bool c24, .list 1 v25, .int .i64 0])) := by kernel_rfl
theorem noonbellref02_Num_Add_eq (n : Nat) (b0 : Bool) (l1 : List FV) (b2 : Bool) (l3 : List FV) : evF En (n + 1) 32 [.bool b0, .list 1 l1, .bool b2, .list 1 l3] = 
  (bif (b0 == b2) then (evF En n 73 [.list 1 l1, .list 1 l3]).bind fun r0 => (asLst 1 (r0[0]?)).bind fun v1 => (evF En n 64 [.bool b0, .list 1 v1]).bind fun r2 => (asBool (r2[0]?)).bind fun c3 => (asLst 1 (r2[1]?)).bind fun v4 => some [.bool c3, .list 1 v4]
   else (evF En n 74 [.list 1 l1, .list 1 l3]).bind fun r5 => (asInt .i64 (r5[0]?)).bind fun n6 => 
    (bif (decide (n6 ≥ 0)) then (evF En n 75 [.list 1 l1, .list 1 l3]).bind fun r7 => (asLst 1 (r7[0]?)).bind fun v8 => (asInt .i64 (r7[1]?)).bind fun n9 => (evF En n 64 [.bool b0, .list 1 v8]).bind fun r10 => (asBool (r10[0]?)).bind fun c11 => (asLst 1 (r10[1]?)).bind fun v12 => some [.bool c11, .list 1 v12]
     else (evF En n 75 [.list 1 l3, .list 1 l1]).bind fun r13 => (asLst 1 (r13[0]?)).bind fun v14 => (asInt .i64 (r13[1]?)).bind fun n15 => (evF En n 64 [.bool b2, .list 1 v14]).bind fun r16 => (asBool (r16[0]?)).bind fun c17 => (asLst 1 (r16[1]?)).bind fun v18 => some [.bool c17, .list 1 v18])) := by kernel_rfl
theorem noonbellref02_Num_Sign_eq (n : Nat) (b0 : Bool) (l1 : List FV) : evF En (n + 1) 33 [.bool b0, .list 1 l1] = 
  (bif b0 then some [.int .i64 (-1)]
   else 
    (bif (decide ((l1.length : Int) > 0)) then some [.int .i64 1]
     else some [.int .i64 0])) := by kernel_rfl
noncomputable def noonbellref03_Parse.l2 (n : Nat) (ms : List Nat) (m : Nat) (L : List FV) : Res := Lp En n 49 [1, 1, 0, 0] ms m L
theorem noonbellref03_Parse.l2_eq (n m : Nat) (b0 : Bool) (l1 : List FV) (b2 : Bool) (l3 : List FV) (s4 : ByteArray) (x5 : Int) : noonbellref03_Parse.l2 n [] (m + 1) [.bool b0, .list 1 l1, .bool b2, .list 1 l3, .str s4, .int .i64 x5] = 
  (bif (decide (x5 < (s4.size : Int))) then (strAt s4 x5).bind fun n0 => 
    (bif (n0 != 47) then noonbellref03_Parse.l2 n [] m [.bool b0, .list 1 l1, .bool b2, .list 1 l3, .str s4, .int .i64 (Go.IntKind.wrap .i64 (x5 + 1))]
     else (bd x5 s4.size).bind fun i1 => (evF En n 31 [.str (s4.extract 0 i1)]).bind fun r2 => (asBool (r2[0]?)).bind fun c3 => (asLst 1 (r2[1]?)).bind fun v4 => (asInt .i64 (r2[2]?)).bind fun n5 => 
      (bif (n5 != 0) then some [.bool false, .list 1 [], .bool false, .list 1 [], .int .i64 10]
       else 
        (bif (x5 == (s4.size : Int)) then (evF En n 21 [.int .i64 1]).bind fun r6 => (asBool (r6[0]?)).bind fun c7 => (asLst 1 (r6[1]?)).bind fun v8 => some [.bool c3, .list 1 v4, .bool c7, .list 1 v8, .int .i64 0]
         else (bd (Go.IntKind.wrap .i64 (x5 + 1)) s4.size).bind fun i9 => (evF En n 72 [.str (s4.extract i9 s4.size)]).bind fun r10 => (asLst 1 (r10[0]?)).bind fun v11 => (asInt .i64 (r10[1]?)).bind fun n12 => (evF En n 64 [.bool false, .list 1 v11]).bind fun r13 => (asBool (r13[0]?)).bind fun c14 => (asLst 1 (r13[1]?)).bind fun v15 => (evF En n 89 [.bool c3, .list 1 v4, .bool c14, .list 1 v15]).bind fun r16 => (asBool (r16[0]?)).bind fun c17 => (asLst 1 (r16[1]?)).bind fun v18 => (asBool (r16[2]?)).bind fun c19 => (asLst 1 (r16[3]?)).bind fun v20 => (asInt .i64 (r16[4]?)).bind fun n21 => 
          (bif (n12 != 0) then some [.bool false, .list 1 [], .bool false, .list 1 [], .int .i64 10]
           else 
            (bif (n21 != 0) then some [.bool false, .list 1 [], .bool false, .list 1 [], .int .i64 10]
             else (evF En n 15 [.bool c17, .list 1 v18, .bool c19, .list 1 v20]).bind fun r22 => (asStr (r22[0]?)).bind fun u23 => 
              (bif (!(u23.toList == s4.toList)) then some [.bool false, .list 1 [], .bool false, .list 1 [], .int .i64 10]
               else some [.bool c17, .list 1 v18, .bool c19, .list 1 v20, .int .i64 0]))))))
   else (bd x5 s4.size).bind fun i24 => (evF En n 31 [.str (s4.extract 0 i24)]).bind fun r25 => (asBool (r25[0]?)).bind fun c26 => (asLst 1 (r25[1]?)).bind fun v27 => (asInt .i64 (r25[2]?)).bind fun n28 => 
    (bif (n28 != 0) then some [.bool false, .list 1 [], .bool false, .list 1 [], .int .i64 10]
     else 
      (bif (x5 == (s4.size : Int)) then (evF En n 21 [.int .i64 1]).bind fun r29 => (asBool (r29[0]?)).bind fun c30 => (asLst 1 (r29[1]?)).bind fun v31 => some [.bool c26, .list 1 v27, .bool c30, .list 1 v31, .int .i64 0]
       else (bd (Go.IntKind.wrap .i64 (x5 + 1)) s4.size).bind fun i32 => (evF En n 72 [.str (s4.extract i32 s4.size)]).bind fun r33 => (asLst 1 (r33[0]?)).bind fun v34 => (asInt .i64 (r33[1]?)).bind fun n35 => (evF En n 64 [.bool false, .list 1 v34]).bind fun r36 => (asBool (r36[0]?)).bind fun c37 => (asLst 1 (r36[1]?)).bind fun v38 => (evF En n 89 [.bool c26, .list 1 v27, .bool c37, .list 1 v38]).bind fun r39 => (asBool (r39[0]?)).bind fun c40 => (asLst 1 (r39[1]?)).bind fun v41 => (asBool (r39[2]?)).bind fun c42 => (asLst 1 (r39[3]?)).bind fun v43 => (asInt .i64 (r39[4]?)).bind fun n44 => 
        (bif (n35 != 0) then some [.bool false, .list 1 [], .bool false, .list 1 [], .int .i64 10]
         else 
          (bif (n44 != 0) then some [.bool false, .list 1 [], .bool false, .list 1 [], .int .i64 10]
           else (evF En n 15 [.bool c40, .list 1 v41, .bool c42, .list 1 v43]).bind fun r45 => (asStr (r45[0]?)).bind fun u46 => 
            (bif (!(u46.toList == s4.toList)) then some [.bool false, .list 1 [], .bool false, .list 1 [], .int .i64 10]
             else some [.bool c40, .list 1 v41, .bool c42, .list 1 v43, .int .i64 0])))))) := by kernel_rfl
theorem noonbellref03_Parse_eq (n : Nat) (s0 : ByteArray) : evF En (n + 1) 49 [.str s0] = noonbellref03_Parse.l2 n [] n [.bool false, .list 1 [], .bool false, .list 1 [], .str s0, .int .i64 0] := by kernel_rfl
theorem noonbellref03_Rat_Sub_eq (n : Nat) (b0 : Bool) (l1 : List FV) (b2 : Bool) (l3 : List FV) (b4 : Bool) (l5 : List FV) (b6 : Bool) (l7 : List FV) : evF En (n + 1) 50 [.bool b0, .list 1 l1, .bool b2, .list 1 l3, .bool b4, .list 1 l5, .bool b6, .list 1 l7] = (evF En n 51 [.bool b4, .list 1 l5, .bool b6, .list 1 l7]).bind fun r0 => (asBool (r0[0]?)).bind fun c1 => (asLst 1 (r0[1]?)).bind fun v2 => (asBool (r0[2]?)).bind fun c3 => (asLst 1 (r0[3]?)).bind fun v4 => (evF En n 52 [.bool b0, .list 1 l1, .bool b2, .list 1 l3, .bool c1, .list 1 v2, .bool c3, .list 1 v4]).bind fun r5 => (asBool (r5[0]?)).bind fun c6 => (asLst 1 (r5[1]?)).bind fun v7 => (asBool (r5[2]?)).bind fun c8 => (asLst 1 (r5[3]?)).bind fun v9 => some [.bool c6, .list 1 v7, .bool c8, .list 1 v9] := by kernel_rfl
theorem noonbellref03_Rat_Neg_eq (n : Nat) (b0 : Bool) (l1 : List FV) (b2 : Bool) (l3 : List FV) : evF En (n + 1) 51 [.bool b0, .list 1 l1, .bool b2, .list 1 l3] = (evF En n 24 [.bool b0, .list 1 l1]).bind fun r0 => (asBool (r0[0]?)).bind fun c1 => (asLst 1 (r0[1]?)).bind fun v2 => (evF En n 54 [.bool b0, .list 1 l1, .bool b2, .list 1 l3]).bind fun r3 => (asBool (r3[0]?)).bind fun c4 => (asLst 1 (r3[1]?)).bind fun v5 => some [.bool c1, .list 1 v2, .bool c4, .list 1 v5] := by kernel_rfl
theorem noonbellref03_Rat_Add_eq (n : Nat) (b0 : Bool) (l1 : List FV) (b2 : Bool) (l3 : List FV) (b4 : Bool) (l5 : List FV) (b6 : Bool) (l7 : List FV) : evF En (n + 1) 52 [.bool b0, .list 1 l1, .bool b2, .list 1 l3, .bool b4, .list 1 l5, .bool b6, .list 1 l7] = (evF En n 54 [.bool b4, .list 1 l5, .bool b6, .list 1 l7]).bind fun r0 => (asBool (r0[0]?)).bind fun c1 => (asLst 1 (r0[1]?)).bind fun v2 => (evF En n 91 [.bool b0, .list 1 l1, .bool c1, .list 1 v2]).bind fun r3 => (asBool (r3[0]?)).bind fun c4 => (asLst 1 (r3[1]?)).bind fun v5 => (evF En n 54 [.bool b0, .list 1 l1, .bool b2, .list 1 l3]).bind fun r6 => (asBool (r6[0]?)).bind fun c7 => (asLst 1 (r6[1]?)).bind fun v8 => (evF En n 91 [.bool b4, .list 1 l5, .bool c7, .list 1 v8]).bind fun r9 => (asBool (r9[0]?)).bind fun c10 => (asLst 1 (r9[1]?)).bind fun v11 => (evF En n 32 [.bool c4, .list 1 v5, .bool c10, .list 1 v11]).bind fun r12 => (asBool (r12[0]?)).bind fun c13 => (asLst 1 (r12[1]?)).bind fun v14 => (evF En n 54 [.bool b0, .list 1 l1, .bool b2, .list 1 l3]).bind fun r15 => (asBool (r15[0]?)).bind fun c16 => (asLst 1 (r15[1]?)).bind fun v17 => (evF En n 54 [.bool b4, .list 1 l5, .bool b6, .list 1 l7]).bind fun r18 => (asBool (r18[0]?)).bind fun c19 => (asLst 1 (r18[1]?)).bind fun v20 => (evF En n 91 [.bool c16, .list 1 v17, .bool c19, .list 1 v20]).bind fun r21 => (asBool (r21[0]?)).bind fun c22 => (asLst 1 (r21[1]?)).bind fun v23 => (evF En n 90 [.bool c13, .list 1 v14, .bool c22, .list 1 v23]).bind fun r24 => (asBool (r24[0]?)).bind fun c25 => (asLst 1 (r24[1]?)).bind fun v26 => (asBool (r24[2]?)).bind fun c27 => (asLst 1 (r24[3]?)).bind fun v28 => some [.bool c25, .list 1 v26, .bool c27, .list 1 v28] := by kernel_rfl
theorem noonbellref03_Rat_Mul_eq (n : Nat) (b0 : Bool) (l1 : List FV) (b2 : Bool) (l3 : List FV) (b4 : Bool) (l5 : List FV) (b6 : Bool) (l7 : List FV) : evF En (n + 1) 53 [.bool b0, .list 1 l1, .bool b2, .list 1 l3, .bool b4, .list 1 l5, .bool b6, .list 1 l7] = (evF En n 91 [.bool b0, .list 1 l1, .bool b4, .list 1 l5]).bind fun r0 => (asBool (r0[0]?)).bind fun c1 => (asLst 1 (r0[1]?)).bind fun v2 => (evF En n 54 [.bool b0, .list 1 l1, .bool b2, .list 1 l3]).bind fun r3 => (asBool (r3[0]?)).bind fun c4 => (asLst 1 (r3[1]?)).bind fun v5 => (evF En n 54 [.bool b4, .list 1 l5, .bool b6, .list 1 l7]).bind fun r6 => (asBool (r6[0]?)).bind fun c7 => (asLst 1 (r6[1]?)).bind fun v8 => (evF En n 91 [.bool c4, .list 1 v5, .bool c7, .list 1 v8]).bind fun r9 => (asBool (r9[0]?)).bind fun c10 => (asLst 1 (r9[1]?)).bind fun v11 => (evF En n 90 [.bool c1, .list 1 v2, .bool c10, .list 1 v11]).bind fun r12 => (asBool (r12[0]?)).bind fun c13 => (asLst 1 (r12[1]?)).bind fun v14 => (asBool (r12[2]?)).bind fun c15 => (asLst 1 (r12[3]?)).bind fun v16 => some [.bool c13, .list 1 v14, .bool c15, .list 1 v16] := by kernel_rfl
theorem noonbellref03_Rat_Den_eq (n : Nat) (b0 : Bool) (l1 : List FV) (b2 : Bool) (l3 : List FV) : evF En (n + 1) 54 [.bool b0, .list 1 l1, .bool b2, .list 1 l3] = (evF En n 33 [.bool b2, .list 1 l3]).bind fun r0 => (asInt .i64 (r0[0]?)).bind fun n1 => 
  (bif (n1 == 0) then (evF En n 21 [.int .i64 1]).bind fun r2 => (asBool (r2[0]?)).bind fun c3 => (asLst 1 (r2[1]?)).bind fun v4 => some [.bool c3, .list 1 v4]
   else some [.bool b2, .list 1 l3]) := by kernel_rfl
theorem noonbellref03_Rat_Sign_eq (n : Nat) (b0 : Bool) (l1 : List FV) (b2 : Bool) (l3 : List FV) : evF En (n + 1) 62 [.bool b0, .list 1 l1, .bool b2, .list 1 l3] = (evF En n 33 [.bool b0, .list 1 l1]).bind fun r0 => (asInt .i64 (r0[0]?)).bind fun n1 => some [.int .i64 n1] := by kernel_rfl
theorem noonbellref03_Rat_Cmp_eq (n : Nat) (b0 : Bool) (l1 : List FV) (b2 : Bool) (l3 : List FV) (b4 : Bool) (l5 : List FV) (b6 : Bool) (l7 : List FV) : evF En (n + 1) 63 [.bool b0, .list 1 l1, .bool b2, .list 1 l3, .bool b4, .list 1 l5, .bool b6, .list 1 l7] = (evF En n 54 [.bool b4, .list 1 l5, .bool b6, .list 1 l7]).bind fun r0 => (asBool (r0[0]?)).bind fun c1 => (asLst 1 (r0[1]?)).bind fun v2 => (evF En n 91 [.bool b0, .list 1 l1, .bool c1, .list 1 v2]).bind fun r3 => (asBool (r3[0]?)).bind fun c4 => (asLst 1 (r3[1]?)).bind fun v5 => (evF En n 54 [.bool b0, .list 1 l1, .bool b2, .list 1 l3]).bind fun r6 => (asBool (r6[0]?)).bind fun c7 => (asLst 1 (r6[1]?)).bind fun v8 => (evF En n 91 [.bool b4, .list 1 l5, .bool c7, .list 1 v8]).bind fun r9 => (asBool (r9[0]?)).bind fun c10 => (asLst 1 (r9[1]?)).bind fun v11 => (evF En n 109 [.bool c4, .list 1 v5, .bool c10, .list 1 v11]).bind fun r12 => (asInt .i64 (r12[0]?)).bind fun n13 => some [.int .i64 n13] := by kernel_rfl
theorem noonbellref02_Make_eq (n : Nat) (b0 : Bool) (l1 : List FV) : evF En (n + 1) 64 [.bool b0, .list 1 l1] = 
  (bif b0 then some [.bool (decide ((l1.length : Int) > 0)), .list 1 l1]
   else some [.bool false, .list 1 l1]) := by kernel_rfl
theorem noonbellref03_Make_eq (n : Nat) (b0 : Bool) (l1 : List FV) (b2 : Bool) (l3 : List FV) : evF En (n + 1) 89 [.bool b0, .list 1 l1, .bool b2, .list 1 l3] = (evF En n 33 [.bool b2, .list 1 l3]).bind fun r0 => (asInt .i64 (r0[0]?)).bind fun n1 => 
  (bif (n1 == 0) then some [.bool false, .list 1 [], .bool false, .list 1 [], .int .i64 12]
   else (evF En n 33 [.bool b2, .list 1 l3]).bind fun r2 => (asInt .i64 (r2[0]?)).bind fun n3 => 
    (bif (decide (n3 < 0)) then (evF En n 24 [.bool b0, .list 1 l1]).bind fun r4 => (asBool (r4[0]?)).bind fun c5 => (asLst 1 (r4[1]?)).bind fun v6 => (evF En n 24 [.bool b2, .list 1 l3]).bind fun r7 => (asBool (r7[0]?)).bind fun c8 => (asLst 1 (r7[1]?)).bind fun v9 => (evF En n 130 [.list 1 v6, .list 1 v9]).bind fun r10 => (asLst 1 (r10[0]?)).bind fun v11 => (evF En n 64 [.bool false, .list 1 v11]).bind fun r12 => (asBool (r12[0]?)).bind fun c13 => (asLst 1 (r12[1]?)).bind fun v14 => (evF En n 131 [.bool c5, .list 1 v6, .bool c13, .list 1 v14]).bind fun r15 => (asBool (r15[0]?)).bind fun c16 => (asLst 1 (r15[1]?)).bind fun v17 => (asBool (r15[2]?)).bind fun c18 => (asLst 1 (r15[3]?)).bind fun v19 => (asInt .i64 (r15[4]?)).bind fun n20 => (evF En n 131 [.bool c8, .list 1 v9, .bool c13, .list 1 v14]).bind fun r21 => (asBool (r21[0]?)).bind fun c22 => (asLst 1 (r21[1]?)).bind fun v23 => (asBool (r21[2]?)).bind fun c24 => (asLst 1 (r21[3]?)).bind fun v25 => (asInt .i64 (r21[4]?)).bind fun n26 => some [.bool c16, .list 1 v17, .bool c22, .list 1 v23, .int .i64 0]
     else (evF En n 130 [.list 1 l1, .list 1 l3]).bind fun r27 => (asLst 1 (r27[0]?)).bind fun v28 => (evF En n 64 [.bool false, .list 1 v28]).bind fun r29 => (asBool (r29[0]?)).bind fun c30 => (asLst 1 (r29[1]?)).bind fun v31 => (evF En n 131 [.bool b0, .list 1 l1, .bool c30, .list 1 v31]).bind fun r32 => (asBool (r32[0]?)).bind fun c33 => (asLst 1 (r32[1]?)).bind fun v34 => (asBool (r32[2]?)).bind fun c35 => (asLst 1 (r32[3]?)).bind fun v36 => (asInt .i64 (r32[4]?)).bind fun n37 => (evF En n 131 [.bool b2, .list 1 l3, .bool c30, .list 1 v31]).bind fun r38 => (asBool (r38[0]?)).bind fun c39 => (asLst 1 (r38[1]?)).bind fun v40 => (asBool (r38[2]?)).bind fun c41 => (asLst 1 (r38[3]?)).bind fun v42 => (asInt .i64 (r38[4]?)).bind fun n43 => some [.bool c33, .list 1 v34, .bool c39, .list 1 v40, .int .i64 0])) := by kernel_rfl
theorem noonbellref03_made_eq (n : Nat) (b0 : Bool) (l1 : List FV) (b2 : Bool) (l3 : List FV) : evF En (n + 1) 90 [.bool b0, .list 1 l1, .bool b2, .list 1 l3] = (evF En n 89 [.bool b0, .list 1 l1, .bool b2, .list 1 l3]).bind fun r0 => (asBool (r0[0]?)).bind fun c1 => (asLst 1 (r0[1]?)).bind fun v2 => (asBool (r0[2]?)).bind fun c3 => (asLst 1 (r0[3]?)).bind fun v4 => (asInt .i64 (r0[4]?)).bind fun n5 => some [.bool c1, .list 1 v2, .bool c3, .list 1 v4] := by kernel_rfl
theorem noonbellref02_Num_Mul_eq (n : Nat) (b0 : Bool) (l1 : List FV) (b2 : Bool) (l3 : List FV) : evF En (n + 1) 91 [.bool b0, .list 1 l1, .bool b2, .list 1 l3] = (evF En n 132 [.list 1 l1, .list 1 l3]).bind fun r0 => (asLst 1 (r0[0]?)).bind fun v1 => (evF En n 64 [.bool (!(b0 == b2)), .list 1 v1]).bind fun r2 => (asBool (r2[0]?)).bind fun c3 => (asLst 1 (r2[1]?)).bind fun v4 => some [.bool c3, .list 1 v4] := by kernel_rfl
theorem noonbellref02_Num_Cmp_eq (n : Nat) (b0 : Bool) (l1 : List FV) (b2 : Bool) (l3 : List FV) : evF En (n + 1) 109 [.bool b0, .list 1 l1, .bool b2, .list 1 l3] = (evF En n 145 [.bool b0, .list 1 l1, .bool b2, .list 1 l3]).bind fun r0 => (asBool (r0[0]?)).bind fun c1 => (asLst 1 (r0[1]?)).bind fun v2 => (evF En n 33 [.bool c1, .list 1 v2]).bind fun r3 => (asInt .i64 (r3[0]?)).bind fun n4 => some [.int .i64 n4] := by kernel_rfl
theorem noonbellref02_Num_QuoRem_eq (n : Nat) (b0 : Bool) (l1 : List FV) (b2 : Bool) (l3 : List FV) : evF En (n + 1) 131 [.bool b0, .list 1 l1, .bool b2, .list 1 l3] = (evF En n 168 [.list 1 l1, .list 1 l3]).bind fun r0 => (asLst 1 (r0[0]?)).bind fun v1 => (asLst 1 (r0[1]?)).bind fun v2 => (asInt .i64 (r0[2]?)).bind fun n3 => 
  (bif (n3 != 0) then some [.bool false, .list 1 [], .bool false, .list 1 [], .int .i64 n3]
   else (evF En n 64 [.bool (!(b0 == b2)), .list 1 v1]).bind fun r4 => (asBool (r4[0]?)).bind fun c5 => (asLst 1 (r4[1]?)).bind fun v6 => (evF En n 64 [.bool b0, .list 1 v2]).bind fun r7 => (asBool (r7[0]?)).bind fun c8 => (asLst 1 (r7[1]?)).bind fun v9 => some [.bool c5, .list 1 v6, .bool c8, .list 1 v9, .int .i64 0]) := by kernel_rfl
theorem noonbellref02_Num_Sub_eq (n : Nat) (b0 : Bool) (l1 : List FV) (b2 : Bool) (l3 : List FV) : evF En (n + 1) 145 [.bool b0, .list 1 l1, .bool b2, .list 1 l3] = (evF En n 24 [.bool b2, .list 1 l3]).bind fun r0 => (asBool (r0[0]?)).bind fun c1 => (asLst 1 (r0[1]?)).bind fun v2 => (evF En n 32 [.bool b0, .list 1 l1, .bool c1, .list 1 v2]).bind fun r3 => (asBool (r3[0]?)).bind fun c4 => (asLst 1 (r3[1]?)).bind fun v5 => some [.bool c4, .list 1 v5] := by kernel_rfl

end Rf
end
