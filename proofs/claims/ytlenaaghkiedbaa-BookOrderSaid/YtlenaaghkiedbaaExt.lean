/- Contracts that are made by hand: what they say. -/
import Derived.Test.YtlenaaghkiedbaaSortL
namespace Rf
open Go

/-- a step, by its fields -/
def stepOk : FV → Bool
  | .agg [.str _, .int .i64 _, .int .i64 _, .int .i64 _, .bool _, .int .i64 _, .int .i64 _] => true
  | _ => false

/-- participant and number, of a step or a block -/
def fkey : FV → ByteArray × Int
  | .agg (.str s :: .int _ m :: _) => (s, m)
  | _ => (⟨#[]⟩, 0)

def fless (a b : FV) : Bool := kless (fkey a) (fkey b)

def stepsExt : List FV → Option (List FV)
  | [.list 3 e0, a0, a1, a2, a3, a4, a5, a6] =>
    if e0.length ≤ 1000000 ∧ (e0.map entVal).all stepOk = true ∧ (e0.map fun e => fkey (entVal e)).Nodup then some [.list 3 e0, a0, a1, a2, a3, a4, a5, a6, .list 7 (isort fless (e0.map entVal))] else none
  | _ => none

/-- a name -/
def nameOk : FV → Bool
  | .agg [.str _, .int .i64 _] => true
  | _ => false
/-- a block, by its fields -/
def blockOk : FV → Bool
  | .agg [.str _, .int .i64 _, .int .i64 _, .bool _, .int .i64 _, .list 1 _, .int .i64 _, .int .i64 _] => true
  | _ => false

/-- is this entry a child of the order of this name? -/
def childB (s : ByteArray) (m : Int) (e : FV) : Bool := match entKey e, entVal e with
  | .agg (.str t :: _), .agg [_, _, _, _, _, _, .int _ p, _] => decide (t = s) && decide (p = m) && decide (0 < m)
  | _, _ => false

def childExt : List FV → Option (List FV)
  | [.list 3 e0, a0, .list 3 e1, a1, .list 3 e2, a2, .list 3 e3, a3, .str s, .int .i64 m] =>
    if (e1.map entKey).all nameOk = true ∧ (e1.map entVal).all blockOk = true then some [.list 3 e0, a0, .list 3 e1, a1, .list 3 e2, a2, .list 3 e3, a3, .bool (e1.any (childB s m))] else none
  | _ => none

def cloneExt : List FV → Option (List FV)
  | [.list 1 xs] => if xs.length ≤ 1000000000 then some [.list 1 xs] else none
  | _ => none

def qOk : FV → Bool
  | .agg [_, _, _, _, _, .list 1 q, _, _] => decide (q.length ≤ 1000000000)
  | _ => false

def blocksExt : List FV → Option (List FV)
  | [.list 3 e0, a0, .list 3 e1, a1, a3, a4, a5, a6] =>
    if e1.length ≤ 12 ∧ (e1.map entVal).all blockOk = true ∧ (e1.map entVal).all qOk = true ∧ (e1.map fun e => fkey (entVal e)).Nodup then some [.list 3 e0, a0, .list 3 e1, a1, a3, a4, a5, a6, .list 8 (isort fless (e1.map entVal))] else none
  | _ => none

def strOk : FV → Bool
  | .str _ => true
  | _ => false
def strOf : FV → ByteArray
  | .str s => s
  | _ => ⟨#[]⟩
def sless (a b : FV) : Bool := kless (strOf a, 0) (strOf b, 0)

def whoExt : List FV → Option (List FV)
  | [a0, a1, a2, a3, a4, a5, .list 3 e3, a6] =>
    if e3.length ≤ 12 ∧ (e3.map entKey).all strOk = true ∧ (e3.map fun e => strOf (entKey e)).Nodup then some [a0, a1, a2, a3, a4, a5, .list 3 e3, a6, .list 1 (isort sless (e3.map entKey))] else none
  | _ => none

open Classical in
/-- one list, and itself -/
noncomputable def sameExt : List FV → Option (List FV)
  | [.list 7 xs, .list 7 ys] => if xs = ys ∧ xs.all stepOk = true ∧ xs.length < 1000000000 then some [.bool true] else none
  | _ => none

/-- what the contract of Blocks leans on -/
def extT1 : Nat → Option (List FV → Option (List FV)) := fun f => lookN f [(44, cloneExt)]

noncomputable def extT : Nat → Option (List FV → Option (List FV)) := fun f => lookN f [(24, stepsExt), (44, cloneExt), (63, childExt), (30, blocksExt), (31, whoExt), (28, sameExt)]

end Rf
