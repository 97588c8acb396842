/- Contracts that are made by hand: what they say. -/
import Derived.Test.YtecinekkgnhhoaaRf1
namespace Rf
open Go

/-- a step, by its fields -/
def stepOk : FV → Bool
  | .agg [.str _, .int .i64 _, .int .i64 _, .int .i64 _, .bool _, .int .i64 _, .int .i64 _] => true
  | _ => false

/-- by participant, then by number -/
def stepLess (a b : FV) : Bool := match a, b with
  | .agg (.str s :: .int _ m :: _), .agg (.str t :: .int _ n :: _) => Op.bytesLess s.toList t.toList || (s.toList == t.toList && decide (m < n))
  | _, _ => false

def stepsExt : List FV → Option (List FV)
  | [.list 3 e0, a0, a1, a2, a3, a4, a5, a6] =>
    if e0.length ≤ 1 ∧ (e0.map entVal).all stepOk = true then some [.list 3 e0, a0, a1, a2, a3, a4, a5, a6, .list 7 (e0.map entVal)] else none
  | _ => none

def extT : Nat → Option (List FV → Option (List FV)) := fun f => lookN f [(24, stepsExt)]

end Rf
