/- Contracts of the library's functions that are made by hand: what they say. -/
import Derived.Test.YtebaohjeodeaoaaGreatDoorRf1
import Derived.Test.YtebaohjeodeaoaaGreatDoorRt
namespace Rf
open Go

/-- a text of these bytes -/
def txt (l : List UInt8) : ByteArray := ⟨l.toArray⟩

def dgts : List UInt8 := [48, 49, 50, 51, 52, 53, 54, 55, 56, 57]

/-- without what is in a cutset, at both ends -/
def trimL (l cs : List UInt8) : List UInt8 := ((l.reverse.dropWhile (cs.contains ·)).reverse).dropWhile (cs.contains ·)

def cloneExt : List FV → Option (List FV)
  | [.list 1 xs] => if xs ≠ [] ∧ xs.length ≤ 1099511627776 ∧ xs.all (fun x => match x with | .int .u32 _ => true | _ => false) = true then some [.list 1 xs] else none
  | _ => none

def formatExt : List FV → Option (List FV)
  | [.int .u64 n, .int .i64 b] => if 0 ≤ n ∧ n < 1000000000000 ∧ b = 10 then some [.str (txt (dtext n.toNat))] else none
  | _ => none

def repeatExt : List FV → Option (List FV)
  | [.str s, .int .i64 k] => if s.data.toList = [48] ∧ 0 ≤ k ∧ k ≤ 9 then some [.str (txt (List.replicate k.toNat 48))] else none
  | _ => none

def byts : FV → List UInt8
  | .str s => s.data.toList
  | _ => []
def strOk : FV → Bool
  | .str _ => true
  | _ => false

def joinExt : List FV → Option (List FV)
  | [.list 1 xs, .str sep] => if sep.data.toList = [] ∧ xs.all strOk = true ∧ xs.length ≤ 1099511627776 ∧ ((xs.map byts).flatten).length ≤ 1099511627776 then some [.str (txt ((xs.map byts).flatten))] else none
  | _ => none

def trimExt : List FV → Option (List FV)
  | [.str s, .str c] => if c.data.toList = dgts ∧ s.data.toList.length ≤ 1099511627776 then some [.str (txt (trimL s.data.toList dgts))] else none
  | _ => none

def parseExt : List FV → Option (List FV)
  | [.str s, .int .i64 b, .int .i64 z] => if s.data.toList ≠ [] ∧ s.data.toList.length ≤ 9 ∧ s.data.toList.all isD = true ∧ b = 10 ∧ z = 32 then some [.int .u64 (vD s.data.toList : Int), .raw .nilIface] else none
  | _ => none

/-- where this byte stands first -/
def ixB : List UInt8 → UInt8 → Int
  | [], _ => -1
  | b :: l, c => if b == c then 0 else if ixB l c == -1 then -1 else ixB l c + 1

def idxExt : List FV → Option (List FV)
  | [.str s, .int .u8 c] => some [.int .i64 (ixB s.data.toList c.toNat.toUInt8)]
  | _ => none

def extT : Nat → Option (List FV → Option (List FV)) := fun f => lookN f [(148, cloneExt), (154, formatExt), (155, repeatExt), (157, joinExt), (160, trimExt), (161, parseExt), (192, idxExt)]

def extT1 : Nat → Option (List FV → Option (List FV)) := extT

end Rf
