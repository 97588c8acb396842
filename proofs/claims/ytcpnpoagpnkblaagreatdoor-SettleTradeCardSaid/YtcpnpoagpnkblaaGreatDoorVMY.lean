/- Texts of this work put together, their blanks and comments taken out: Rca, Rcb, Rcc. -/
import Derived.Test.YtcpnpoagpnkblaaGreatDoorVMX
set_option linter.unusedVariables false
set_option linter.unusedSimpArgs false
section
/- The document's check, piece by piece: shape, numbers, bounds. -/
set_option maxHeartbeats 4000000
namespace Rf
open Go
abbrev rL(r:ResV)(rest:List FV):List FV:=.list 1 (r.accept.map .bool)::.list 1 (r.x.map sF)::.list 1 (r.f.map rowF)::.list 1 (r.p.map rowF)::sF r.q1g::sF r.upper::.bool r.q8c::iF r.nodes::rest
abbrev gR(g:q11)(rest:List FV):List FV:=iF g.qm::iF g.qk::.list 3 (g.lines.map q1a.fv)::iF g.low::iF g.high::rest
section
variable {g:q11} {ss:List StpV} {bs:List BlkV} {r:ResV}
end
end Rf
end
section
/- The document's check, piece by piece: balance, prices, welfare. -/
set_option maxHeartbeats 4000000
namespace Rf
open Go
section
variable {g:q11} {ss:List StpV} {bs:List BlkV} {r:ResV} {ac:List Bool}
end
end Rf
end
section
/- The document's check, piece by piece: welfare. -/
set_option maxHeartbeats 4000000
namespace Rf
open Go
section
variable {g:q11} {ss:List StpV} {bs:List BlkV} {r:ResV}
end
end Rf
end
