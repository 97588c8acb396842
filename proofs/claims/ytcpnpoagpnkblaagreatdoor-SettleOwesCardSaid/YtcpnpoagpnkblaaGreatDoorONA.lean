/- Texts of this work put together, their blanks and comments taken out: EnvC, EqLaw16, Hv16. -/
import Derived.Test.YtcpnpoagpnkblaaGreatDoorOMZ
import Derived.Test.YtcpnpoagpnkblaaGreatDoorOMH
import Derived.KernelRfl
set_option linter.unusedVariables false
set_option linter.unusedSimpArgs false
set_option maxHeartbeats 4000000
section
namespace Rf
open Go
end Rf
end
section
set_option maxRecDepth 100000
set_option maxHeartbeats 4000000
namespace Rf
open Go
end Rf
end
namespace Rf
open Go
def stpShp:List Shp:=[.str,.int .i64,.int .i64,.int .i64,.bool,.int .i64,.int .i64]
theorem stpV_of{cs:List FV}(h:All2 Fits stpShp cs):∃s:StpV,mkEl true cs=s.fv/\True:=by
 obtain⟨x1,r1,rfl,h1,h⟩:=h.cons_inv;obtain⟨x2,r2,rfl,h2,h⟩:=h.cons_inv;obtain⟨x3,r3,rfl,h3,h⟩:=h.cons_inv;obtain⟨x4,r4,rfl,h4,h⟩:=h.cons_inv;obtain⟨x5,r5,rfl,h5,h⟩:=h.cons_inv;obtain⟨x6,r6,rfl,h6,h⟩:=h.cons_inv;obtain⟨x7,r7,rfl,h7,h⟩:=h.cons_inv;obtain rfl:=h.q88;obtain⟨s1,rfl,_⟩:=h1.q5b;obtain⟨n2,rfl,_⟩:=h2.q1n;obtain⟨n3,rfl,_⟩:=h3.q1n;obtain⟨n4,rfl,_⟩:=h4.q1n;obtain⟨b5,rfl⟩:=h5.q49;obtain⟨n6,rfl,_⟩:=h6.q1n;obtain⟨n7,rfl,_⟩:=h7.q1n;exact⟨⟨s1,n2,n3,n4,b5,n6,n7⟩,rfl,trivial⟩
def lnShp:List Shp:=[.int .i64,.int .i64,.int .i64]
theorem lineV_of{cs:List FV}(h:All2 Fits lnShp cs):∃l:qz,mkEl true cs=l.fv/\True:=by
 obtain⟨x1,r1,rfl,h1,h⟩:=h.cons_inv;obtain⟨x2,r2,rfl,h2,h⟩:=h.cons_inv;obtain⟨x3,r3,rfl,h3,h⟩:=h.cons_inv;obtain rfl:=h.q88;obtain⟨n1,rfl,_⟩:=h1.q1n;obtain⟨n2,rfl,_⟩:=h2.q1n;obtain⟨n3,rfl,_⟩:=h3.q1n;exact⟨⟨n1,n2,n3⟩,rfl,trivial⟩
theorem rows_of{x:FV}(h:Fits (.lst false 24 [.lst false 16 [.str]]) x):∃P:List (List Txt),x=.list 1 (P.map rowF)/\P.length<=140737488351232/\∀r,r∈P->r.length<=140737488355328:=by
 obtain⟨P,rfl,hP,hr⟩:=h.q8y rowF (R:=λr=>r.length<=140737488355328) λcs hcs=>by
  obtain⟨y,r,rfl,hy,hr⟩:=hcs.cons_inv;obtain rfl:=hr.q88;obtain⟨t,rfl,ht⟩:=hy.qii;exact⟨t,rfl,ht⟩
 exact⟨P,rfl,by omega,hr⟩
structure Sw(g:q10)(ss:List StpV)(bs:List BlkV)(r:ResV):Prop where
 ssl:ss.length<=140737488351232
 bsl:bs.length<=140737488351232
 lsl:g.lines.length<=140737488351232
 acl:r.accept.length<=140737488351232
 xl:r.x.length<=140737488355328
 fl:r.f.length<=140737488351232
 pl:r.p.length<=140737488351232
 f:∀l,l∈r.f->l.length<=140737488355328
 p:∀l,l∈r.p->l.length<=140737488355328
abbrev cL(g:q10)(ss:List StpV)(bs:List BlkV)(r:ResV)(rest:List FV):List FV:=gR g (.list 7 (ss.map StpV.fv)::.list 8 (bs.map BlkV.fv)::rL r rest)
section
variable {g:q10} {ss:List StpV} {bs:List BlkV} {r:ResV} {n:Nat}
end
end Rf
