/- Made by a program of this work: what each function comes to, one step of it; by the kernel. -/
import Derived.Test.YtebaohjeodeaoaaGreatDoorRfEnv
import Derived.KernelRfl
set_option linter.unusedVariables false
set_option maxRecDepth 100000
set_option maxHeartbeats 4000000
namespace Rf
open Go

theorem strings_Cut_eq (n : Nat) (s0 : ByteArray) (s1 : ByteArray) : evF En (n + 1) 78 [.str s0, .str s1] = (evF En n 120 [.str s0, .str s1]).bind fun r0 => (asStr (r0[0]?)).bind fun u1 => (asStr (r0[1]?)).bind fun u2 => (asBool (r0[2]?)).bind fun c3 => some [.str u1, .str u2, .bool c3] := by kernel_rfl
theorem stringslite_Cut_eq (n : Nat) (s0 : ByteArray) (s1 : ByteArray) : evF En (n + 1) 120 [.str s0, .str s1] = (evF En n 158 [.str s0, .str s1]).bind fun r0 => (asInt .i64 (r0[0]?)).bind fun n1 => 
  (bif (decide (n1 ≥ 0)) then (bd n1 s0.size).bind fun i2 => (bd (Go.IntKind.wrap .i64 (n1 + (s1.size : Int))) s0.size).bind fun i3 => some [.str (s0.extract 0 i2), .str (s0.extract i3 s0.size), .bool true]
   else some [.str s0, .str { data := #[] }, .bool false]) := by kernel_rfl
noncomputable def slices_Reverse_string_string.l1 (n : Nat) (ms : List Nat) (m : Nat) (L : List FV) : Res := Lp En n 156 [1, 0] ms m L
theorem slices_Reverse_string_string.l1_eq (n m : Nat) (l0 : List FV) (x1 : Int) (x2 : Int) : slices_Reverse_string_string.l1 n [] (m + 1) [.list 1 l0, .int .i64 x1, .int .i64 x2] = 
  (bif (decide (x1 < x2)) then (ix x2 l0.length).bind fun i0 => (asStr (at' l0 i0 0)).bind fun u1 => (ix x1 l0.length).bind fun i2 => (asStr (at' l0 i2 0)).bind fun u3 => (ix x1 l0.length).bind fun i4 => (ix x2 (List.set l0 i4 (.str u1)).length).bind fun i5 => slices_Reverse_string_string.l1 n [] m [.list 1 (List.set (List.set l0 i4 (.str u1)) i5 (.str u3)), .int .i64 (Go.IntKind.wrap .i64 (x1 + 1)), .int .i64 (Go.IntKind.wrap .i64 (x2 - 1))]
   else some [.list 1 l0]) := by kernel_rfl
theorem slices_Reverse_string_string_eq (n : Nat) (l0 : List FV) : evF En (n + 1) 156 [.list 1 l0] = slices_Reverse_string_string.l1 n [] n [.list 1 l0, .int .i64 0, .int .i64 (Go.IntKind.wrap .i64 ((l0.length : Int) - 1))] := by kernel_rfl
noncomputable def stringslite_Index.l15 (n : Nat) (ms : List Nat) (m : Nat) (L : List FV) : Res := Lp En n 158 [1, 1, 1, 1, 1, 1, 1, 1, 0, 0] ms m L
theorem stringslite_Index.l15_eq (n m : Nat) (s0 : ByteArray) (s1 : ByteArray) (x2 : Int) (x3 : Int) (x4 : Int) (x5 : Int) (x6 : Int) (x7 : Int) : stringslite_Index.l15 n [] (m + 1) [.str s0, .str s1, .int .i64 x2, .int .u8 x3, .int .u8 x4, .int .i64 x5, .int .i64 x6, .int .i64 x7] = 
  (bif (decide (x5 < x6)) then (strAt s0 x5).bind fun n0 => 
    (bif (n0 != x3) then (bd x6 s0.size).bind fun i1 => (bd (Go.IntKind.wrap .i64 (x5 + 1)) i1).bind fun i2 => (evF En n 192 [.str (s0.extract i2 i1), .int .u8 x3]).bind fun r3 => (asInt .i64 (r3[0]?)).bind fun n4 => 
      (bif (decide (n4 < 0)) then some [.int .i64 (-1)]
       else (strAt s0 (Go.IntKind.wrap .i64 ((Go.IntKind.wrap .i64 (x5 + (Go.IntKind.wrap .i64 (n4 + 1)))) + 1))).bind fun n5 => 
        (bif (n5 == x4) then (bd (Go.IntKind.wrap .i64 ((Go.IntKind.wrap .i64 (x5 + (Go.IntKind.wrap .i64 (n4 + 1)))) + x2)) s0.size).bind fun i6 => (bd (Go.IntKind.wrap .i64 (x5 + (Go.IntKind.wrap .i64 (n4 + 1)))) i6).bind fun i7 => 
          (bif ((s0.extract i7 i6).toList == s1.toList) then some [.int .i64 (Go.IntKind.wrap .i64 (x5 + (Go.IntKind.wrap .i64 (n4 + 1))))]
           else none)
         else none))
     else (strAt s0 (Go.IntKind.wrap .i64 (x5 + 1))).bind fun n8 => 
      (bif (n8 == x4) then (bd (Go.IntKind.wrap .i64 (x5 + x2)) s0.size).bind fun i9 => (bd x5 i9).bind fun i10 => 
        (bif ((s0.extract i10 i9).toList == s1.toList) then some [.int .i64 x5]
         else none)
       else none))
   else some [.int .i64 (-1)]) := by kernel_rfl
theorem stringslite_Index_eq (n : Nat) (s0 : ByteArray) (s1 : ByteArray) : evF En (n + 1) 158 [.str s0, .str s1] = 
  (bif ((s1.size : Int) == 0) then some [.int .i64 0]
   else 
    (bif (s1.toList == s0.toList) then some [.int .i64 0]
     else 
      (bif ((s1.size : Int) == 1) then (strAt s1 0).bind fun n0 => (evF En n 192 [.str s0, .int .u8 n0]).bind fun r1 => (asInt .i64 (r1[0]?)).bind fun n2 => some [.int .i64 n2]
       else 
        (bif (decide ((s1.size : Int) ≥ (s0.size : Int))) then some [.int .i64 (-1)]
         else none)))) := by kernel_rfl

end Rf
