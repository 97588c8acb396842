/- The library's tables that are read, whose blocks no one writes: the powers of ten. -/
import GoSem.Claims
namespace Rf
open Go

def pow10s : List Int := [1, 10, 100, 1000, 10000, 100000, 1000000, 10000000, 100000000, 1000000000, 10000000000, 100000000000, 1000000000000, 10000000000000, 100000000000000, 1000000000000000, 10000000000000000, 100000000000000000, 1000000000000000000, 10000000000000000000]
/-- blocks and the cells that stand in them, all the time -/
def tabs : List (Nat × Array Value) := [(1, (pow10s.map fun z => Value.int .u64 z).toArray)]

end Rf
