/- Merged: EqLib EqNat EqRat EqJoinA EqJoinS EqRefN EqRefR EqLnk EqSurp. -/
import Derived.Test.YtcpnpoagpnkblaaGreatDoorNMG
import Derived.KernelRfl
set_option linter.unusedVariables false
set_option linter.unusedSimpArgs false
set_option maxRecDepth 100000
set_option maxHeartbeats 4000000
namespace Rf
open Go
noncomputable section
section
variable (n m:Nat)
variable (b:List FV)
variable (a c:ByteArray)
variable (e d:Int)
theorem qqv:evF En (n+1) 176 [.str a,.str c]=(evF En n 214 [.str a,.str c]).bind λf=> (asStr f[0]?).bind λg=>(asStr f[1]?).bind λh=>(asBool f[2]?).bind λi=>some [.str g,.str h,.bool i]:=by kernel_rfl
def q7s.l1(n:Nat):=Lp En n 208 [1,0]
theorem q7s.q2v:q7s.l1 n [] (m+1) [iL b,iI e,iI d] =
(cond (e<d) ((ix d b.length).bind λh=> (asStr (at' b h 0)).bind λf=> (ix e b.length).bind λi=> (asStr (at' b i 0)).bind λj=> (ix e b.length).bind λg=> (ix d (List.set b g (.str f)).length).bind λk=> q7s.l1 n [] m [iL (List.set (List.set b g (.str f)) k (.str j)),iI (w6 (e+1)),iI (w6 (d-1))]) (some [iL b])):=by kernel_rfl
theorem qqw:evF En (n+1) 208 [iL b]=q7s.l1 n [] n [iL b,iI 0,iI (w6 ((b.length:Int)-1))]:=by kernel_rfl
theorem qqx:evF En (n+1) 214 [.str a,.str c]=(evF En n 246 [.str a,.str c]).bind λg=> (asInt .i64 (g[0]?)).bind λf=>
(cond (f≥0) ((bd f a.size).bind λh=> (bd (w6 (f+(c.size:Int))) a.size).bind λi=> some [.str (a.extract 0 h),.str (a.extract i a.size),.bool true]) (some [.str a,.str { data:=#[] },.bool false])):=by kernel_rfl
theorem qqy:evF En (n+1) 246 [.str a,.str c] =
(cond ((c.size:Int)==0) (some [iI 0]) (cond (c.toList==a.toList) (some [iI 0]) (cond ((c.size:Int)==1) ((q2p c 0).bind λf=> (evF En n 262 [.str a,.int .u8 f]).bind λg=> (asInt .i64 g[0]?).bind λh=>some [iI h]) (cond ((c.size:Int)≥(a.size:Int)) (some [iI (-1)]) none)))):=by kernel_rfl
end
section
variable (n m:Nat)
variable (a b h l j e o z:List FV)
variable (q:Nat)
variable (x u:ByteArray)
variable (i r c g f k s d p v t w y:Int)
def q8f.l4(n:Nat):=Lp En n 148 [1,1,1,0,0]
theorem q8f.q13:q8f.l4 n [] (m+1) [iL a,iL b] =
(cond ((a.length:Int)>0) ((evF En n 205 [iL a,.int .u32 1000000000]).bind λD=> (asLst 1 D[0]?).bind λB=>(asInt .u32 D[1]?).bind λE=>(evF En n 206 [.int .u64 (IntKind.wrap .u64 E),iI 10]).bind λF=> (asStr F[0]?).bind λA=>
(cond ((B.length:Int)>0) ((evF En n 207 [.str { data:=#[48] },iI (w6 (9-(A.size:Int)))]).bind λG=> (asStr G[0]?).bind λC=>
(cond (((C.size+A.size):Int)>9223372036854775807) none (cond (Nat.ble (b.length+(qb 1 (.str { data:=#[] }) [(0,(.str (C++A)))]).length) 8796093022208) (q8f.l4 n [] m [iL B,iL (b++(qb 1 (.str { data:=#[] }) [(0,(.str (C++A)))]))]) none))) (cond (Nat.ble (b.length+(qb 1 (.str { data:=#[] }) [(0,(.str A))]).length) 8796093022208) (q8f.l4 n [] m [iL B,iL (b++(qb 1 (.str { data:=#[] }) [(0,(.str A))]))]) none))) ((evF En n 208 [iL b]).bind λH=> (asLst 1 H[0]?).bind λI=>(evF En n 209 [iL I,.str { data:=#[] }]).bind λJ=> (asStr J[0]?).bind λK=>some [.str K])):=by kernel_rfl
theorem qp8:evF En (n+1) 148 [iL a] =
(cond ((a.length:Int)==0) (some [.str { data:=#[48] }]) (q8f.l4 n [] n [iL a,iL []])):=by kernel_rfl
theorem qp9:evF En (n+1) 196 [.int .u32 i] =
(cond (i≥65536) (cond ((shI false .u32 i 16)≥256) ((q2p { data:=(([0,1,2,2,3,3,3,3,4,4,4,4,4,4,4,4,5,5,5,5,5,5,5,5,5,5,5,5,5,5,5,5,6,6,6,6,6,6,6,6,6,6,6,6,6,6,6,6,6,6,6,6,6,6,6,6,6,6,6,6,6,6,6,6].append [7,7,7,7,7,7,7,7,7,7,7,7,7,7,7,7,7,7,7,7,7,7,7,7,7,7,7,7,7,7,7,7,7,7,7,7,7,7,7,7,7,7,7,7,7,7,7,7,7,7,7,7,7,7,7,7,7,7,7,7,7,7,7,7]).append ([8,8,8,8,8,8,8,8,8,8,8,8,8,8,8,8,8,8,8,8,8,8,8,8,8,8,8,8,8,8,8,8,8,8,8,8,8,8,8,8,8,8,8,8,8,8,8,8,8,8,8,8,8,8,8,8,8,8,8,8,8,8,8,8].append [8,8,8,8,8,8,8,8,8,8,8,8,8,8,8,8,8,8,8,8,8,8,8,8,8,8,8,8,8,8,8,8,8,8,8,8,8,8,8,8,8,8,8,8,8,8,8,8,8,8,8,8,8,8,8,8,8,8,8,8,8,8,8,8])).toArray } (IntKind.wrap .u8 (shI false .u32 (shI false .u32 i 16) 8))).bind λA=> some [iI (w6 (24+(w6 A)))]) ((q2p { data:=(([0,1,2,2,3,3,3,3,4,4,4,4,4,4,4,4,5,5,5,5,5,5,5,5,5,5,5,5,5,5,5,5,6,6,6,6,6,6,6,6,6,6,6,6,6,6,6,6,6,6,6,6,6,6,6,6,6,6,6,6,6,6,6,6].append [7,7,7,7,7,7,7,7,7,7,7,7,7,7,7,7,7,7,7,7,7,7,7,7,7,7,7,7,7,7,7,7,7,7,7,7,7,7,7,7,7,7,7,7,7,7,7,7,7,7,7,7,7,7,7,7,7,7,7,7,7,7,7,7]).append ([8,8,8,8,8,8,8,8,8,8,8,8,8,8,8,8,8,8,8,8,8,8,8,8,8,8,8,8,8,8,8,8,8,8,8,8,8,8,8,8,8,8,8,8,8,8,8,8,8,8,8,8,8,8,8,8,8,8,8,8,8,8,8,8].append [8,8,8,8,8,8,8,8,8,8,8,8,8,8,8,8,8,8,8,8,8,8,8,8,8,8,8,8,8,8,8,8,8,8,8,8,8,8,8,8,8,8,8,8,8,8,8,8,8,8,8,8,8,8,8,8,8,8,8,8,8,8,8,8])).toArray } (IntKind.wrap .u8 (shI false .u32 i 16))).bind λB=> some [iI (w6 (16+(w6 B)))])) (cond (i≥256) ((q2p { data:=(([0,1,2,2,3,3,3,3,4,4,4,4,4,4,4,4,5,5,5,5,5,5,5,5,5,5,5,5,5,5,5,5,6,6,6,6,6,6,6,6,6,6,6,6,6,6,6,6,6,6,6,6,6,6,6,6,6,6,6,6,6,6,6,6].append [7,7,7,7,7,7,7,7,7,7,7,7,7,7,7,7,7,7,7,7,7,7,7,7,7,7,7,7,7,7,7,7,7,7,7,7,7,7,7,7,7,7,7,7,7,7,7,7,7,7,7,7,7,7,7,7,7,7,7,7,7,7,7,7]).append ([8,8,8,8,8,8,8,8,8,8,8,8,8,8,8,8,8,8,8,8,8,8,8,8,8,8,8,8,8,8,8,8,8,8,8,8,8,8,8,8,8,8,8,8,8,8,8,8,8,8,8,8,8,8,8,8,8,8,8,8,8,8,8,8].append [8,8,8,8,8,8,8,8,8,8,8,8,8,8,8,8,8,8,8,8,8,8,8,8,8,8,8,8,8,8,8,8,8,8,8,8,8,8,8,8,8,8,8,8,8,8,8,8,8,8,8,8,8,8,8,8,8,8,8,8,8,8,8,8])).toArray } (IntKind.wrap .u8 (shI false .u32 i 8))).bind λC=> some [iI (w6 (8+(w6 C)))]) ((q2p { data:=(([0,1,2,2,3,3,3,3,4,4,4,4,4,4,4,4,5,5,5,5,5,5,5,5,5,5,5,5,5,5,5,5,6,6,6,6,6,6,6,6,6,6,6,6,6,6,6,6,6,6,6,6,6,6,6,6,6,6,6,6,6,6,6,6].append [7,7,7,7,7,7,7,7,7,7,7,7,7,7,7,7,7,7,7,7,7,7,7,7,7,7,7,7,7,7,7,7,7,7,7,7,7,7,7,7,7,7,7,7,7,7,7,7,7,7,7,7,7,7,7,7,7,7,7,7,7,7,7,7]).append ([8,8,8,8,8,8,8,8,8,8,8,8,8,8,8,8,8,8,8,8,8,8,8,8,8,8,8,8,8,8,8,8,8,8,8,8,8,8,8,8,8,8,8,8,8,8,8,8,8,8,8,8,8,8,8,8,8,8,8,8,8,8,8,8].append [8,8,8,8,8,8,8,8,8,8,8,8,8,8,8,8,8,8,8,8,8,8,8,8,8,8,8,8,8,8,8,8,8,8,8,8,8,8,8,8,8,8,8,8,8,8,8,8,8,8,8,8,8,8,8,8,8,8,8,8,8,8,8,8])).toArray } (IntKind.wrap .u8 i)).bind λD=> some [iI (w6 (0+(w6 D)))]))):=by kernel_rfl
def q6g.l6(n:Nat):=Lp En n 200 [1,1,1,1,0,1,0]
theorem q6g.q2n:q6g.l6 n [] (m+1) [iL a,iL b,iL h,iL l,.int .u64 f,iL e,iI s,iI d] =
(cond (d<s) ((ix d e.length).bind λC=> (asInt .u32 (at' e C 0)).bind λA=>
(cond (d<(b.length:Int)) ((ix d b.length).bind λD=> (asInt .u32 (at' b D 0)).bind λB=> (ix d l.length).bind λE=> q6g.l6 n [] m [iL a,iL b,iL h,iL (List.set l E (.int .u32 (IntKind.wrap .u32 (IntKind.wrap .u64 ((IntKind.wrap .u64 (f+(IntKind.wrap .u64 A)))+(IntKind.wrap .u64 B)))))),.int .u64 (shI false .u64 (IntKind.wrap .u64 ((IntKind.wrap .u64 (f+(IntKind.wrap .u64 A)))+(IntKind.wrap .u64 B))) 32),iL e,iI s,iI (w6 (d+1))]) ((ix d l.length).bind λF=> q6g.l6 n [] m [iL a,iL b,iL h,iL (List.set l F (.int .u32 (IntKind.wrap .u32 (IntKind.wrap .u64 (f+(IntKind.wrap .u64 A)))))),.int .u64 (shI false .u64 (IntKind.wrap .u64 (f+(IntKind.wrap .u64 A))) 32),iL e,iI s,iI (w6 (d+1))]))) ((ix (a.length:Int) l.length).bind λG=> (evF En n 229 [iL (List.set l G (.int .u32 (IntKind.wrap .u32 f)))]).bind λH=> (asLst 1 H[0]?).bind λI=>some [iL I])):=by kernel_rfl
theorem qpa:evF En (n+1) 200 [iL a,iL b] =
(cond ((a.length:Int)<(b.length:Int)) ((q1p 4 (w6 ((b.length:Int)+1))).bind λA=> (bd (w6 ((b.length:Int)+1)) A).bind λB=> q6g.l6 n [] n [iL b,iL a,iL [],iL (List.replicate B (.int .u32 0:FV)),.int .u64 0,iL b,iI (b.length:Int),iI 0]) ((q1p 4 (w6 ((a.length:Int)+1))).bind λC=> (bd (w6 ((a.length:Int)+1)) C).bind λD=> q6g.l6 n [] n [iL a,iL b,iL [],iL (List.replicate D (.int .u32 0:FV)),.int .u64 0,iL a,iI (a.length:Int),iI 0])):=by kernel_rfl
def q7m.l6(n:Nat):=Lp En n 201 [1,1,1,1,0,1,0]
theorem q7m.q2n:q7m.l6 n [] (m+1) [iL a,iL b,iL h,.int .u32 g,iI f,iI k] =
(cond (k<f) (cond (k<(a.length:Int)) ((ix k a.length).bind λC=> (asInt .u32 (at' a C 0)).bind λD=> (ix k h.length).bind λE=> (asInt .u32 (at' h E 0)).bind λF=> (evF En n 231 [.int .u32 F,.int .u32 D,.int .u32 g]).bind λA=> (asInt .u32 A[0]?).bind λG=>(asInt .u32 A[1]?).bind λH=>(ix k h.length).bind λI=> q7m.l6 n [] m [iL a,iL b,iL (List.set h I (.int .u32 G)),.int .u32 H,iI f,iI (w6 (k+1))]) ((ix k h.length).bind λJ=> (asInt .u32 (at' h J 0)).bind λK=> (evF En n 231 [.int .u32 K,.int .u32 0,.int .u32 g]).bind λB=> (asInt .u32 B[0]?).bind λM=>(asInt .u32 B[1]?).bind λN=>(ix k h.length).bind λO=> q7m.l6 n [] m [iL a,iL b,iL (List.set h O (.int .u32 M)),.int .u32 N,iI f,iI (w6 (k+1))])) ((evF En n 229 [iL h]).bind λP=> (asLst 1 P[0]?).bind λQ=>some [iL Q,iI 0])):=by kernel_rfl
theorem qja:evF En (n+1) 201 [iL a,iL b]=(evF En n 202 [iL a,iL b]).bind λB=> (asInt .i64 (B[0]?)).bind λC=>
(cond (C<0) (some [iL [],iI 11]) ((evF En n 230 [iL a]).bind λD=> (asLst 1 D[0]?).bind λA=>q7m.l6 n [] n [iL b,iL [],iL A,.int .u32 0,iI (A.length:Int),iI 0])):=by kernel_rfl
def q9e.l6(n:Nat):=Lp En n 202 [1,1,0,1,0]
theorem q9e.q2n:q9e.l6 n [] (m+1) [iL a,iL b,iI c] =
(cond (c≥0) ((ix c a.length).bind λA=> (asInt .u32 (at' a A 0)).bind λB=> (ix c b.length).bind λC=> (asInt .u32 (at' b C 0)).bind λD=>
(cond (B !=D) ((ix c a.length).bind λE=> (asInt .u32 (at' a E 0)).bind λF=> (ix c b.length).bind λG=> (asInt .u32 (at' b G 0)).bind λH=>
(cond (F<H) (some [iI (-1)]) (some [iI 1]))) (q9e.l6 n [] m [iL a,iL b,iI (w6 (c-1))]))) (some [iI 0])):=by kernel_rfl
theorem qpb:evF En (n+1) 202 [iL a,iL b] =
(cond ((a.length:Int)<(b.length:Int)) (some [iI (-1)]) (cond ((a.length:Int)>(b.length:Int)) (some [iI 1]) (q9e.l6 n [] n [iL a,iL b,iI (w6 ((a.length:Int)-1))]))):=by kernel_rfl
def q12.l13(n:Nat):=Lp En n 203 [1,0,1,1,1,1,1,1,0,1,0]
def q12.l18(n:Nat):=Lp En n 203 [1,0,1,1,1,1,1,1,0,1,0,0,1,0,0,1,1,0,1,0]
def q12.l23(n:Nat):=Lp En n 203 [1,0,1,1,1,1,1,1,0,1,0,0,1,0,0,1,1,1,1,0,1,0]
def q12.l35(n:Nat):=Lp En n 203 [1,0,1,1,1,1,1,1,0,1,0,0,1,0,0,1,1,1,1,1,1,1,1,1,1,0,1,0]
def q12.l42(n:Nat):=Lp En n 203 [1,0,1,1,1,1,1,1,1,1,0,1,0]
theorem q12.q4w:q12.l13 n [] (m+1) [iL a,iL b,iI c,.int .u64 g,iL j,iL e,iL o,iI d] =
(cond (d≥0) ((ix (w6 (d+c)) e.length).bind λD=> (asInt .u32 (at' e D 0)).bind λA=> (ix (w6 ((w6 (d+c))-1)) e.length).bind λE=> (asInt .u32 (at' e E 0)).bind λB=> (ix (w6 (c-1)) j.length).bind λF=> (asInt .u32 (at' j F 0)).bind λC=>
(cond ((IntKind.wrap .u64 C)=0) none ((ix (w6 (c-1)) j.length).bind λG=> (asInt .u32 (at' j G 0)).bind λH=> q12.l18 n [m] n [iL a,iL b,iI c,.int .u64 g,iL j,iL e,iL o,iI d,.int .u64 (if 4294967295<(IntKind.wrap .u64 (Int.tdiv (bitI .or .u64 (shI true .u64 (IntKind.wrap .u64 A) 32) (IntKind.wrap .u64 B)) (IntKind.wrap .u64 C)))then 4294967295 else(IntKind.wrap .u64 (Int.tdiv (bitI .or .u64 (shI true .u64 (IntKind.wrap .u64 A) 32) (IntKind.wrap .u64 B)) (IntKind.wrap .u64 C)))),.int .u64 (IntKind.wrap .u64 ((bitI .or .u64 (shI true .u64 (IntKind.wrap .u64 A) 32) (IntKind.wrap .u64 B))-(IntKind.wrap .u64 ((if 4294967295<(IntKind.wrap .u64 (Int.tdiv (bitI .or .u64 (shI true .u64 (IntKind.wrap .u64 A) 32) (IntKind.wrap .u64 B)) (IntKind.wrap .u64 C)))then 4294967295 else(IntKind.wrap .u64 (Int.tdiv (bitI .or .u64 (shI true .u64 (IntKind.wrap .u64 A) 32) (IntKind.wrap .u64 B)) (IntKind.wrap .u64 C))))*(IntKind.wrap .u64 H)))))]))) ((q1p 4 c).bind λI=> (bd c I).bind λJ=> q12.l42 n [] n [iL a,iL b,.int .u64 g,iL e,iL o,iL (List.replicate J (.int .u32 0:FV)),iI c,iI 0])):=by kernel_rfl
theorem q12.q7n:q12.l18 n [q] (m+1) [iL a,iL b,iI c,.int .u64 g,iL j,iL e,iL o,iI d,.int .u64 p,.int .u64 v] =
(cond (v<4294967296) ((ix (w6 (c-2)) j.length).bind λA=> (asInt .u32 (at' j A 0)).bind λB=> (ix (w6 ((w6 (d+c))-2)) e.length).bind λC=> (asInt .u32 (at' e C 0)).bind λD=>
(cond ((IntKind.wrap .u64 (p*(IntKind.wrap .u64 B)))>(bitI .or .u64 (shI true .u64 v 32) (IntKind.wrap .u64 D))) ((ix (w6 (c-1)) j.length).bind λE=> (asInt .u32 (at' j E 0)).bind λF=> q12.l18 n [q] m [iL a,iL b,iI c,.int .u64 g,iL j,iL e,iL o,iI d,.int .u64 (IntKind.wrap .u64 (p-1)),.int .u64 (IntKind.wrap .u64 (v+(IntKind.wrap .u64 F)))]) (q12.l23 n [q] n [iL a,iL b,iI c,.int .u64 g,iL j,iL e,iL o,iI d,.int .u64 p,.int .u32 0,.int .u64 0,iI c,iI 0]))) (q12.l23 n [q] n [iL a,iL b,iI c,.int .u64 g,iL j,iL e,iL o,iI d,.int .u64 p,.int .u32 0,.int .u64 0,iI c,iI 0])):=by kernel_rfl
theorem q12.l23_eq:q12.l23 n [q] (m+1) [iL a,iL b,iI c,.int .u64 g,iL j,iL e,iL o,iI d,.int .u64 p,.int .u32 v,.int .u64 t,iI w,iI y] =
(cond (y<w) ((ix y j.length).bind λG=> (asInt .u32 (at' j G 0)).bind λB=> (ix (w6 (d+y)) e.length).bind λH=> (asInt .u32 (at' e H 0)).bind λI=> (evF En n 231 [.int .u32 I,.int .u32 (IntKind.wrap .u32 (IntKind.wrap .u64 (t+(IntKind.wrap .u64 (p*(IntKind.wrap .u64 B)))))),.int .u32 v]).bind λC=> (asInt .u32 C[0]?).bind λJ=>(asInt .u32 C[1]?).bind λK=>(ix (w6 (d+y)) e.length).bind λM=> q12.l23 n [q] m [iL a,iL b,iI c,.int .u64 g,iL j,iL (List.set e M (.int .u32 J)),iL o,iI d,.int .u64 p,.int .u32 K,.int .u64 (shI false .u64 (IntKind.wrap .u64 (t+(IntKind.wrap .u64 (p*(IntKind.wrap .u64 B))))) 32),iI w,iI (w6 (y+1))]) ((ix (w6 (d+c)) e.length).bind λN=> (asInt .u32 (at' e N 0)).bind λO=> (evF En n 231 [.int .u32 O,.int .u32 (IntKind.wrap .u32 t),.int .u32 v]).bind λD=> (asInt .u32 D[0]?).bind λE=>(asInt .u32 D[1]?).bind λP=>(ix (w6 (d+c)) e.length).bind λF=> (ix d o.length).bind λA=>
(cond (P==0) (q12.l13 n [] q [iL a,iL b,iI c,.int .u64 g,iL j,iL (List.set e F (.int .u32 E)),iL (List.set o A (.int .u32 (IntKind.wrap .u32 p))),iI (w6 (d-1))]) ((ix d (List.set o A (.int .u32 (IntKind.wrap .u32 p))).length).bind λQ=> (asInt .u32 (at' (List.set o A (.int .u32 (IntKind.wrap .u32 p))) Q 0)).bind λR=> (ix d (List.set o A (.int .u32 (IntKind.wrap .u32 p))).length).bind λS=> q12.l35 n [q] n [iL a,iL b,iI c,.int .u64 g,iL j,iL (List.set e F (.int .u32 E)),iL (List.set (List.set o A (.int .u32 (IntKind.wrap .u32 p))) S (.int .u32 (IntKind.wrap .u32 (R-1)))),iI d,.int .u32 0,iI c,iI 0])))):=by kernel_rfl
theorem q12.l35_eq:q12.l35 n [q] (m+1) [iL a,iL b,iI c,.int .u64 g,iL j,iL e,iL o,iI d,.int .u32 p,iI v,iI t] =
(cond (t<v) ((ix (w6 (d+t)) e.length).bind λB=> (asInt .u32 (at' e B 0)).bind λC=> (ix t j.length).bind λD=> (asInt .u32 (at' j D 0)).bind λE=> (evF En n 234 [.int .u32 C,.int .u32 E,.int .u32 p]).bind λA=> (asInt .u32 A[0]?).bind λF=>(asInt .u32 A[1]?).bind λG=>(ix (w6 (d+t)) e.length).bind λH=> q12.l35 n [q] m [iL a,iL b,iI c,.int .u64 g,iL j,iL (List.set e H (.int .u32 F)),iL o,iI d,.int .u32 G,iI v,iI (w6 (t+1))]) ((ix (w6 (d+c)) e.length).bind λI=> (asInt .u32 (at' e I 0)).bind λJ=> (ix (w6 (d+c)) e.length).bind λK=> q12.l13 n [] q [iL a,iL b,iI c,.int .u64 g,iL j,iL (List.set e K (.int .u32 (IntKind.wrap .u32 (J+p)))),iL o,iI (w6 (d-1))])):=by kernel_rfl
theorem q12.l42_eq:q12.l42 n [] (m+1) [iL a,iL b,.int .u64 c,iL l,iL j,iL e,iI s,iI d] =
(cond (d<s) ((ix (w6 (d+1)) l.length).bind λA=> (asInt .u32 (at' l A 0)).bind λB=> (ix d l.length).bind λC=> (asInt .u32 (at' l C 0)).bind λD=>
(cond (c<0) none ((ix d e.length).bind λE=> q12.l42 n [] m [iL a,iL b,.int .u64 c,iL l,iL j,iL (List.set e E (.int .u32 (IntKind.wrap .u32 (shI false .u64 (bitI .or .u64 (shI true .u64 (IntKind.wrap .u64 B) 32) (IntKind.wrap .u64 D)) c)))),iI s,iI (w6 (d+1))]))) ((evF En n 229 [iL j]).bind λF=> (asLst 1 F[0]?).bind λG=>(evF En n 229 [iL e]).bind λH=> (asLst 1 H[0]?).bind λI=>some [iL G,iL I,iI 0])):=by kernel_rfl
theorem qfn:evF En (n+1) 203 [iL a,iL b] =
(cond ((b.length:Int)==0) (some [iL [],iL [],iI 12]) ((evF En n 202 [iL a,iL b]).bind λF=> (asInt .i64 (F[0]?)).bind λG=>
(cond (G<0) (some [iL [],iL a,iI 0]) (cond ((b.length:Int)==1) ((ix 0 b.length).bind λH=> (asInt .u32 (at' b H 0)).bind λI=> (evF En n 205 [iL a,.int .u32 I]).bind λD=> (asLst 1 D[0]?).bind λJ=>(asInt .u32 D[1]?).bind λK=>(evF En n 204 [.int .u64 (IntKind.wrap .u64 K)]).bind λM=> (asLst 1 M[0]?).bind λN=>some [iL J,iL N,iI 0]) ((ix (w6 ((b.length:Int)-1)) b.length).bind λO=> (asInt .u32 (at' b O 0)).bind λP=> (evF En n 232 [.int .u32 P]).bind λQ=> (asInt .i64 Q[0]?).bind λA=>(evF En n 233 [iL b,.int .u64 (IntKind.wrap .u64 A)]).bind λR=> (asLst 1 R[0]?).bind λB=>(bd (b.length:Int) (Rf.viewOf Option.none B.length).snd).bind λS=> (evF En n 233 [iL a,.int .u64 (IntKind.wrap .u64 A)]).bind λT=> (asLst 1 T[0]?).bind λC=>(q1p 4 (w6 ((C.length:Int)-(b.length:Int)))).bind λU=> (bd (w6 ((C.length:Int)-(b.length:Int))) U).bind λE=> q12.l13 n [] n [iL [],iL [],iI (b.length:Int),.int .u64 (IntKind.wrap .u64 A),iL (List.take (S-0) (List.drop ((Rf.viewOf Option.none B.length).fst+0) B)),iL C,iL (List.replicate E (.int .u32 0:FV)),iI (w6 (((List.replicate E (.int .u32 0:FV)).length:Int)-1))]))))):=by kernel_rfl
theorem nat_Of_eq:evF En (n+1) 204 [.int .u64 i]=(evF En n 229 [iL (qb 2 (.int .u32 0) [(0,(.int .u32 (IntKind.wrap .u32 i))),(1,(.int .u32 (IntKind.wrap .u32 (shI false .u64 i 32))))])]).bind λA=> (asLst 1 A[0]?).bind λB=>some [iL B]:=by kernel_rfl
def q9f.l4(n:Nat):=Lp En n 205 [1,1,1,0,1,0]
theorem q9f.q13:q9f.l4 n [] (m+1) [iL a,iL b,.int .u32 c,iL l,.int .u64 f,iI k] =
(cond (k≥0) ((ix k a.length).bind λB=> (asInt .u32 (at' a B 0)).bind λA=>
(cond ((IntKind.wrap .u64 c)=0) none ((ix k l.length).bind λC=>
(cond ((IntKind.wrap .u64 c)=0) none (q9f.l4 n [] m [iL a,iL b,.int .u32 c,iL (List.set l C (.int .u32 (IntKind.wrap .u32 (IntKind.wrap .u64 (Int.tdiv (bitI .or .u64 (shI true .u64 f 32) (IntKind.wrap .u64 A)) (IntKind.wrap .u64 c)))))),.int .u64 (Int.tmod (bitI .or .u64 (shI true .u64 f 32) (IntKind.wrap .u64 A)) (IntKind.wrap .u64 c)),iI (w6 (k-1))]))))) ((evF En n 229 [iL l]).bind λD=> (asLst 1 D[0]?).bind λE=>some [iL E,.int .u32 (IntKind.wrap .u32 f)])):=by kernel_rfl
theorem qpc:evF En (n+1) 205 [iL a,.int .u32 r]=(q1p 4 (a.length:Int)).bind λA=> (bd (a.length:Int) A).bind λB=> q9f.l4 n [] n [iL a,iL [],.int .u32 r,iL (List.replicate B (.int .u32 0:FV)),.int .u64 0,iI (w6 ((a.length:Int)-1))]:=by kernel_rfl
def q3q.l3(n:Nat):=Lp En n 212 [1,1,0,1,0]
def q3q.l7(n:Nat):=Lp En n 212 [1,1,0,1,0,0,1,1,0,0,1,1,0,1,0]
theorem q3q.qq:q3q.l3 n [] (m+1) [iL a,iL b,iL h,iL l,iI f,iI k] =
(cond (k<f) ((ix k l.length).bind λA=> (asInt .u32 (at' l A 0)).bind λB=> q3q.l7 n [m] n [iL a,iL b,iL h,iI k,.int .u32 B,.int .u64 0,iL l,iI f,iI k,iL a,iI (a.length:Int),iI 0]) ((evF En n 229 [iL h]).bind λC=> (asLst 1 C[0]?).bind λD=>some [iL D])):=by kernel_rfl
theorem q3q.q3a:q3q.l7 n [q] (m+1) [iL a,iL b,iL h,iI g,.int .u32 f,.int .u64 k,iL o,iI d,iI p,iL z,iI t,iI w] =
(cond (w<t) ((ix w z.length).bind λC=> (asInt .u32 (at' z C 0)).bind λA=> (ix (w6 (g+w)) h.length).bind λD=> (asInt .u32 (at' h D 0)).bind λB=> (ix (w6 (g+w)) h.length).bind λE=> q3q.l7 n [q] m [iL a,iL b,iL (List.set h E (.int .u32 (IntKind.wrap .u32 (IntKind.wrap .u64 (k+(IntKind.wrap .u64 ((IntKind.wrap .u64 B)+(IntKind.wrap .u64 ((IntKind.wrap .u64 f)*(IntKind.wrap .u64 A)))))))))),iI g,.int .u32 f,.int .u64 (shI false .u64 (IntKind.wrap .u64 (k+(IntKind.wrap .u64 ((IntKind.wrap .u64 B)+(IntKind.wrap .u64 ((IntKind.wrap .u64 f)*(IntKind.wrap .u64 A))))))) 32),iL o,iI d,iI p,iL z,iI t,iI (w6 (w+1))]) ((ix (w6 (g+(a.length:Int))) h.length).bind λF=> q3q.l3 n [] q [iL a,iL b,iL (List.set h F (.int .u32 (IntKind.wrap .u32 k))),iL o,iI d,iI (w6 (p+1))])):=by kernel_rfl
theorem qpd:evF En (n+1) 212 [iL a,iL b]=(q1p 4 (w6 ((a.length:Int)+(b.length:Int)))).bind λA=> (bd (w6 ((a.length:Int)+(b.length:Int))) A).bind λB=> q3q.l3 n [] n [iL b,iL [],iL (List.replicate B (.int .u32 0:FV)),iL a,iI (a.length:Int),iI 0]:=by kernel_rfl
def q3e.l4(n:Nat):=Lp En n 216 [1,1,1,0,0]
def q3e.l8(n:Nat):=Lp En n 216 [1,1,1,0,0,0,1,0,1,1,0,1,0]
theorem q3e.q13:q3e.l4 n [] (m+1) [iL a,iL b,.str u] =
(cond (!(u.toList==({ data:=#[] }:ByteArray).toList)) (q3e.l8 n [m] n [iL a,iL b,.str u,iI (w6 ((Int.tmod (w6 ((u.size:Int)-1)) 9)+1)),.int .u32 1,iI (w6 ((Int.tmod (w6 ((u.size:Int)-1)) 9)+1)),iI 0]) (some [iL b,iI 0])):=by kernel_rfl
theorem q3e.l8_eq:q3e.l8 n [q] (m+1) [iL a,iL b,.str u,iI g,.int .u32 f,iI k,iI s] =
(cond (s<k) (q3e.l8 n [q] m [iL a,iL b,.str u,iI g,.int .u32 (IntKind.wrap .u32 (f*10)),iI k,iI (w6 (s+1))]) ((bd g u.size).bind λA=> (evF En n 249 [.str (u.extract 0 A),iI 10,iI 32]).bind λB=> (asInt .u64 B[0]?).bind λC=>(evF En n 250 [iL b,.int .u32 f,.int .u32 (IntKind.wrap .u32 C)]).bind λD=> (asLst 1 D[0]?).bind λE=>(bd g u.size).bind λF=> q3e.l4 n [] q [iL a,iL E,.str (u.extract F u.size)])):=by kernel_rfl
theorem qjb:evF En (n+1) 216 [.str x] =
(cond (x.toList==({ data:=#[] }:ByteArray).toList) (some [iL [],iI 10]) ((q2p x 0).bind λA=>
(cond (A==48) (cond (!(x.toList==({ data:=#[48] }:ByteArray).toList)) (some [iL [],iI 10]) ((evF En n 248 [.str x,.str { data:=#[48,49,50,51,52,53,54,55,56,57] }]).bind λB=> (asStr B[0]?).bind λC=>
(cond (!(C.toList==({ data:=#[] }:ByteArray).toList)) (some [iL [],iI 10]) (q3e.l4 n [] n [iL [],iL [],.str x])))) ((evF En n 248 [.str x,.str { data:=#[48,49,50,51,52,53,54,55,56,57] }]).bind λD=> (asStr D[0]?).bind λE=>
(cond (!(E.toList==({ data:=#[] }:ByteArray).toList)) (some [iL [],iI 10]) (q3e.l4 n [] n [iL [],iL [],.str x])))))):=by kernel_rfl
theorem qpe:evF En (n+1) 217 [iL a] =
(cond ((a.length:Int)==0) (some [iI 0]) ((ix (w6 ((a.length:Int)-1)) a.length).bind λA=> (asInt .u32 (at' a A 0)).bind λB=> (evF En n 196 [.int .u32 B]).bind λC=> (asInt .i64 C[0]?).bind λD=>some [iI (w6 ((w6 (32*(w6 ((a.length:Int)-1))))+D))])):=by kernel_rfl
def q3f.l1(n:Nat):=Lp En n 219 [1,0,0]
def q3f.l4(n:Nat):=Lp En n 219 [1,0,0,0,1,0,0,1,0,1,0,0]
theorem q3f.q2v:q3f.l1 n [] (m+1) [iL a,iL b,iL h] =
(cond ((b.length:Int)>0) (cond ((a.length:Int)<=2) (cond ((b.length:Int)<=2) ((evF En n 251 [iL a]).bind λC=> (asInt .u64 C[0]?).bind λD=>(evF En n 251 [iL b]).bind λE=> (asInt .u64 E[0]?).bind λF=>q3f.l4 n [m] n [iL h,.int .u64 D,.int .u64 F]) ((evF En n 203 [iL a,iL b]).bind λA=> (asLst 1 A[0]?).bind λI=>(asLst 1 A[1]?).bind λG=>(asInt .i64 A[2]?).bind λJ=>q3f.l1 n [] m [iL b,iL G,iL h])) ((evF En n 203 [iL a,iL b]).bind λB=> (asLst 1 B[0]?).bind λK=>(asLst 1 B[1]?).bind λH=>(asInt .i64 B[2]?).bind λM=>q3f.l1 n [] m [iL b,iL H,iL h])) (some [iL a])):=by kernel_rfl
theorem q3f.q13:q3f.l4 n [q] (m+1) [iL a,.int .u64 r,.int .u64 c] =
(cond (c>0) (cond (c=0) none (q3f.l4 n [q] m [iL a,.int .u64 c,.int .u64 (Int.tmod r c)])) ((evF En n 204 [.int .u64 r]).bind λA=> (asLst 1 A[0]?).bind λB=>some [iL B])):=by kernel_rfl
theorem qpf:evF En (n+1) 219 [iL a,iL b]=q3f.l1 n [] n [iL a,iL b,iL []]:=by kernel_rfl
def q9g.l1(n:Nat):=Lp En n 229 [1,0,0]
theorem q9g.q2v:q9g.l1 n [] (m+1) [iL a,iL b] =
(cond ((b.length:Int)>0) ((ix (w6 ((b.length:Int)-1)) b.length).bind λA=> (asInt .u32 (at' b A 0)).bind λB=>
(cond (B==0) ((bd (w6 ((b.length:Int)-1)) b.length).bind λC=> q9g.l1 n [] m [iL a,iL (List.drop 0 (List.take C b))]) (some [iL b]))) (some [iL b])):=by kernel_rfl
theorem qpg:evF En (n+1) 229 [iL a]=q9g.l1 n [] n [iL [],iL a]:=by kernel_rfl
theorem qph:evF En (n+1) 231 [.int .u32 i,.int .u32 r,.int .u32 c]=some [.int .u32 (IntKind.wrap .u32 ((IntKind.wrap .u32 (i-r))-c)),.int .u32 (shI false .u32 (bitI .or .u32 (bitI .and .u32 (bitI .xor .u32 4294967295 i) r) (bitI .and .u32 (bitI .xor .u32 4294967295 (bitI .xor .u32 i r)) (IntKind.wrap .u32 ((IntKind.wrap .u32 (i-r))-c)))) 31)]:=by kernel_rfl
theorem qpi:evF En (n+1) 232 [.int .u32 i]=(evF En n 196 [.int .u32 i]).bind λA=> (asInt .i64 A[0]?).bind λB=>some [iI (w6 (32-B))]:=by kernel_rfl
def q9h.l3(n:Nat):=Lp En n 233 [1,1,0,1,0]
theorem q9h.qq:q9h.l3 n [] (m+1) [.int .u64 i,iL b,iL h,iI g,iI f] =
(cond (f<g) ((ix f h.length).bind λD=> (asInt .u32 (at' h D 0)).bind λA=>
(cond (i<0) none ((ix f b.length).bind λE=> (asInt .u32 (at' b E 0)).bind λB=> (ix f b.length).bind λC=> (ix (w6 (f+1)) (List.set b C (.int .u32 (bitI .or .u32 B (IntKind.wrap .u32 (shI true .u64 (IntKind.wrap .u64 A) i))))).length).bind λF=> q9h.l3 n [] m [.int .u64 i,iL (List.set (List.set b C (.int .u32 (bitI .or .u32 B (IntKind.wrap .u32 (shI true .u64 (IntKind.wrap .u64 A) i))))) F (.int .u32 (IntKind.wrap .u32 (shI false .u64 (shI true .u64 (IntKind.wrap .u64 A) i) 32)))),iL h,iI g,iI (w6 (f+1))]))) (some [iL b])):=by kernel_rfl
theorem qpj:evF En (n+1) 233 [iL a,.int .u64 r]=(q1p 4 (w6 ((a.length:Int)+1))).bind λA=> (bd (w6 ((a.length:Int)+1)) A).bind λB=> q9h.l3 n [] n [.int .u64 r,iL (List.replicate B (.int .u32 0:FV)),iL a,iI (a.length:Int),iI 0]:=by kernel_rfl
theorem qpk:evF En (n+1) 234 [.int .u32 i,.int .u32 r,.int .u32 c]=some [.int .u32 (IntKind.wrap .u32 (IntKind.wrap .u64 ((IntKind.wrap .u64 ((IntKind.wrap .u64 i)+(IntKind.wrap .u64 r)))+(IntKind.wrap .u64 c)))),.int .u32 (IntKind.wrap .u32 (shI false .u64 (IntKind.wrap .u64 ((IntKind.wrap .u64 ((IntKind.wrap .u64 i)+(IntKind.wrap .u64 r)))+(IntKind.wrap .u64 c))) 32))]:=by kernel_rfl
def q9i.l4(n:Nat):=Lp En n 250 [1,1,1,0,1,0]
theorem q9i.q13:q9i.l4 n [] (m+1) [iL a,iL b,.int .u32 c,iL l,.int .u64 f,iL e,iI s,iI d] =
(cond (d<s) ((ix d e.length).bind λB=> (asInt .u32 (at' e B 0)).bind λA=> (ix d l.length).bind λC=> q9i.l4 n [] m [iL a,iL b,.int .u32 c,iL (List.set l C (.int .u32 (IntKind.wrap .u32 (IntKind.wrap .u64 (f+(IntKind.wrap .u64 ((IntKind.wrap .u64 A)*(IntKind.wrap .u64 c)))))))),.int .u64 (shI false .u64 (IntKind.wrap .u64 (f+(IntKind.wrap .u64 ((IntKind.wrap .u64 A)*(IntKind.wrap .u64 c))))) 32),iL e,iI s,iI (w6 (d+1))]) ((ix (a.length:Int) l.length).bind λD=> (evF En n 229 [iL (List.set l D (.int .u32 (IntKind.wrap .u32 f)))]).bind λE=> (asLst 1 E[0]?).bind λF=>some [iL F])):=by kernel_rfl
theorem qpl:evF En (n+1) 250 [iL a,.int .u32 r,.int .u32 c]=(q1p 4 (w6 ((a.length:Int)+1))).bind λA=> (bd (w6 ((a.length:Int)+1)) A).bind λB=> q9i.l4 n [] n [iL a,iL [],.int .u32 r,iL (List.replicate B (.int .u32 0:FV)),.int .u64 (IntKind.wrap .u64 c),iL a,iI (a.length:Int),iI 0]:=by kernel_rfl
def q6h.l3(n:Nat):=Lp En n 251 [1,1,0,1,0]
theorem q6h.qq:q6h.l3 n [] (m+1) [.int .u64 i,iL b,iI c,iI g] =
(cond (g<c) ((ix g b.length).bind λA=> (asInt .u32 (at' b A 0)).bind λB=>
(cond ((IntKind.wrap .u64 (w6 (32*g)))<0) none (q6h.l3 n [] m [.int .u64 (bitI .or .u64 i (shI true .u64 (IntKind.wrap .u64 B) (IntKind.wrap .u64 (w6 (32*g))))),iL b,iI c,iI (w6 (g+1))]))) (some [.int .u64 i])):=by kernel_rfl
theorem qpm:evF En (n+1) 251 [iL a]=q6h.l3 n [] n [.int .u64 0,iL a,iI (a.length:Int),iI 0]:=by kernel_rfl
end
section
variable (n:Nat)
variable (o b d f i:Bool)
variable (a l c g j:List FV)
variable (e h:ByteArray)
variable (k:Int)
theorem qob:evF En (n+1) 83 [iL a,.bool b,iL c,.bool d]=(evF En n 140 [iL a,.bool b,iL c,.bool d]).bind λt=> (asLst 1 t[0]?).bind λE=>(asBool t[1]?).bind λF=>(evF En n 139 [iL a,.bool b,iL E,.bool F]).bind λp=> (asLst 1 p[0]?).bind λq=>(asBool p[1]?).bind λr=>(asLst 1 p[2]?).bind λu=>(asBool p[3]?).bind λv=>(asInt .i64 p[4]?).bind λn8=>(evF En n 141 [iL u,.bool v,iL u,.bool v]).bind λw=> (asLst 1 w[0]?).bind λG=>(asBool w[1]?).bind λH=>(evF En n 140 [iL a,.bool b,iL c,.bool d]).bind λx=> (asLst 1 x[0]?).bind λI=>(asBool x[1]?).bind λJ=>(evF En n 142 [iL G,.bool H,iL I,.bool J]).bind λK=> (asInt .i64 K[0]?).bind λy=>(evF En n 144 [iI 2]).bind λz=> (asLst 1 z[0]?).bind λM=>(asBool z[1]?).bind λN=>(evF En n 143 [iL q,.bool r,iL M,.bool N]).bind λs=> (asLst 1 s[0]?).bind λv21=>(asBool s[1]?).bind λc22=>(asLst 1 s[2]?).bind λO=>(asBool s[3]?).bind λP=>(asInt .i64 (s[4]?)).bind λn25=>
(cond (y>0) ((evF En n 146 []).bind λA=> (asLst 1 A[0]?).bind λQ=>(asBool A[1]?).bind λR=>(evF En n 141 [iL q,.bool r,iL Q,.bool R]).bind λB=> (asLst 1 B[0]?).bind λS=>(asBool B[1]?).bind λT=>some [iL S,.bool T]) (cond (y==0) ((evF En n 145 [iL O,.bool P]).bind λU=> (asInt .i64 (U[0]?)).bind λV=>
(cond (V !=0) ((evF En n 146 []).bind λC=> (asLst 1 C[0]?).bind λW=>(asBool C[1]?).bind λX=>(evF En n 141 [iL q,.bool r,iL W,.bool X]).bind λD=> (asLst 1 D[0]?).bind λY=>(asBool D[1]?).bind λZ=>some [iL Y,.bool Z]) (some [iL q,.bool r]))) (some [iL q,.bool r]))):=by kernel_rfl
theorem qtl:evF En (n+1) 84 [iL a,.bool b,iL c,.bool d]=(evF En n 147 [iL c,.bool d]).bind λp=> (asLst 1 p[0]?).bind λr=>(asBool p[1]?).bind λs=>(evF En n 141 [iL a,.bool b,iL r,.bool s]).bind λq=> (asLst 1 q[0]?).bind λt=>(asBool q[1]?).bind λu=>some [iL t,.bool u]:=by kernel_rfl
theorem qtq:evF En (n+1) 85 [iL a,.bool b] =
(cond b ((evF En n 148 [iL a]).bind λq=> (asStr q[0]?).bind λp=>
(cond (((1+p.size):Int)>9223372036854775807) none (some [.str ({ data:=#[45] }++p)]))) ((evF En n 148 [iL a]).bind λr=> (asStr r[0]?).bind λs=>some [.str s])):=by kernel_rfl
theorem rat_Of_eq:evF En (n+1) 111 [iI k]=(evF En n 144 [iI k]).bind λp=> (asLst 1 p[0]?).bind λr=>(asBool p[1]?).bind λs=>(evF En n 146 []).bind λq=> (asLst 1 q[0]?).bind λt=>(asBool q[1]?).bind λu=>some [iL r,.bool s,iL t,.bool u]:=by kernel_rfl
theorem qhc:evF En (n+1) 112 (iL a::kQ b c d g [.bool f,iL j,.bool i])=(evF En n 172 (iL a::kQ b c d g [.bool f,iL j,.bool i,.raw (Go.Value.func (Go.Fn.func 84) #[] #[])])).bind λp=> (asLst 1 p[0]?).bind λq=>(asBool p[1]?).bind λr=>(asLst 1 p[2]?).bind λs=>(asBool p[3]?).bind λt=>some [iL q,.bool r,iL s,.bool t]:=by kernel_rfl
theorem qhb:evF En (n+1) 113 (iL a::kQ b c d g [.bool f,iL j,.bool i])=(evF En n 172 (iL a::kQ b c d g [.bool f,iL j,.bool i,.raw (Go.Value.func (Go.Fn.func 141) #[] #[])])).bind λp=> (asLst 1 p[0]?).bind λq=>(asBool p[1]?).bind λr=>(asLst 1 p[2]?).bind λs=>(asBool p[3]?).bind λt=>some [iL q,.bool r,iL s,.bool t]:=by kernel_rfl
theorem qu1:evF En (n+1) 115 [iL a,.bool b,iL c,.bool d]=(evF En n 145 [iL a,.bool b]).bind λp=> (asInt .i64 p[0]?).bind λq=>some [iI q]:=by kernel_rfl
theorem qu4:evF En (n+1) 116 (iL a::kQ b c d g [.bool f,iL j,.bool i])=(evF En n 140 [iL g,.bool f,iL j,.bool i]).bind λp=> (asLst 1 p[0]?).bind λt=>(asBool p[1]?).bind λu=>(evF En n 173 [iL a,.bool b,iL t,.bool u]).bind λq=> (asLst 1 q[0]?).bind λv=>(asBool q[1]?).bind λw=>(evF En n 140 [iL a,.bool b,iL c,.bool d]).bind λr=> (asLst 1 r[0]?).bind λx=>(asBool r[1]?).bind λy=>(evF En n 173 [iL g,.bool f,iL x,.bool y]).bind λs=> (asLst 1 s[0]?).bind λz=>(asBool s[1]?).bind λA=>(evF En n 142 [iL v,.bool w,iL z,.bool A]).bind λB=> (asInt .i64 B[0]?).bind λC=>some [iI C]:=by kernel_rfl
theorem qar:evF En (n+1) 118 [.str e]=(evF En n 176 [.str e,.str { data:=#[47] }]).bind λs=> (asStr s[0]?).bind λO=>(asStr s[1]?).bind λP=>(asBool s[2]?).bind λQ=>(evF En n 177 [.str O]).bind λt=> (asLst 1 t[0]?).bind λu=>(asBool t[1]?).bind λv=>(asInt .i64 t[2]?).bind λw=>(evF En n 146 []).bind λy=> (asLst 1 y[0]?).bind λz=>(asBool y[1]?).bind λA=>
(cond Q (cond (w==0) ((evF En n 177 [.str P]).bind λx=> (asLst 1 x[0]?).bind λR=>(asBool x[1]?).bind λS=>(asInt .i64 (x[2]?)).bind λT=>
(cond (T !=0) (some [iL [],.bool false,iL [],.bool false,iI 10]) ((evF En n 178 [iL u,.bool v,iL R,.bool S]).bind λp=> (asLst 1 p[0]?).bind λB=>(asBool p[1]?).bind λC=>(asLst 1 p[2]?).bind λD=>(asBool p[3]?).bind λE=>(asInt .i64 (p[4]?)).bind λU=>
(cond (U !=0) (some [iL [],.bool false,iL [],.bool false,iI 10]) ((evF En n 167 [iL B,.bool C,iL D,.bool E]).bind λV=> (asStr V[0]?).bind λW=>
(cond (!(W.toList==e.toList)) (some [iL [],.bool false,iL [],.bool false,iI 10]) (some [iL B,.bool C,iL D,.bool E,iI 0]))))))) (cond (w !=0) (some [iL [],.bool false,iL [],.bool false,iI 10]) ((evF En n 178 [iL u,.bool v,iL z,.bool A]).bind λq=> (asLst 1 q[0]?).bind λF=>(asBool q[1]?).bind λG=>(asLst 1 q[2]?).bind λH=>(asBool q[3]?).bind λI=>(asInt .i64 (q[4]?)).bind λX=>
(cond (X !=0) (some [iL [],.bool false,iL [],.bool false,iI 10]) ((evF En n 167 [iL F,.bool G,iL H,.bool I]).bind λY=> (asStr Y[0]?).bind λZ=>
(cond (!(Z.toList==e.toList)) (some [iL [],.bool false,iL [],.bool false,iI 10]) (some [iL F,.bool G,iL H,.bool I,iI 0]))))))) (cond (w !=0) (some [iL [],.bool false,iL [],.bool false,iI 10]) ((evF En n 178 [iL u,.bool v,iL z,.bool A]).bind λr=> (asLst 1 r[0]?).bind λJ=>(asBool r[1]?).bind λK=>(asLst 1 r[2]?).bind λM=>(asBool r[3]?).bind λN=>(asInt .i64 (r[4]?)).bind λn36=>
(cond (n36 !=0) (some [iL [],.bool false,iL [],.bool false,iI 10]) ((evF En n 167 [iL J,.bool K,iL M,.bool N]).bind λr37=> (asStr r37[0]?).bind λu38=>
(cond (!(u38.toList==e.toList)) (some [iL [],.bool false,iL [],.bool false,iI 10]) (some [iL J,.bool K,iL M,.bool N,iI 0]))))))):=by kernel_rfl
theorem qoa:evF En (n+1) 139 [iL a,.bool b,iL c,.bool d]=(evF En n 143 [iL a,.bool b,iL c,.bool d]).bind λq=> (asLst 1 q[0]?).bind λt=>(asBool q[1]?).bind λu=>(asLst 1 q[2]?).bind λr=>(asBool q[3]?).bind λp=>(asInt .i64 (q[4]?)).bind λs=>
(cond (s==0) ((evF En n 198 [iL r,.bool p]).bind λy=> (asBool y[0]?).bind λz=>
(cond (!z) (cond (!(p==d)) ((evF En n 144 [iI 1]).bind λv=> (asLst 1 v[0]?).bind λA=>(asBool v[1]?).bind λB=>(evF En n 84 [iL t,.bool u,iL A,.bool B]).bind λw=> (asLst 1 w[0]?).bind λC=>(asBool w[1]?).bind λD=>(evF En n 141 [iL r,.bool p,iL c,.bool d]).bind λx=> (asLst 1 x[0]?).bind λE=>(asBool x[1]?).bind λF=>some [iL C,.bool D,iL E,.bool F,iI s]) (some [iL t,.bool u,iL r,.bool p,iI s])) (some [iL t,.bool u,iL r,.bool p,iI s]))) (some [iL t,.bool u,iL r,.bool p,iI s])):=by kernel_rfl
theorem qu0:evF En (n+1) 140 [iL a,.bool b,iL c,.bool d]=(evF En n 145 [iL c,.bool d]).bind λq=> (asInt .i64 (q[0]?)).bind λr=>
(cond (r==0) ((evF En n 146 []).bind λp=> (asLst 1 p[0]?).bind λs=>(asBool p[1]?).bind λt=>some [iL s,.bool t]) (some [iL c,.bool d])):=by kernel_rfl
theorem qh2:evF En (n+1) 141 [iL a,.bool b,iL c,.bool d] =
(cond (b==d) ((evF En n 200 [iL a,iL c]).bind λu=> (asLst 1 u[0]?).bind λv=>(evF En n 199 [.bool b,iL v]).bind λp=> (asLst 1 p[0]?).bind λw=>(asBool p[1]?).bind λx=>some [iL w,.bool x]) ((evF En n 201 [iL a,iL c]).bind λq=> (asLst 1 q[0]?).bind λy=>(asInt .i64 (q[1]?)).bind λz=>
(cond (z==0) ((evF En n 199 [.bool b,iL y]).bind λr=> (asLst 1 r[0]?).bind λA=>(asBool r[1]?).bind λB=>some [iL A,.bool B]) ((evF En n 201 [iL c,iL a]).bind λs=> (asLst 1 s[0]?).bind λC=>(asInt .i64 s[1]?).bind λF=>(evF En n 199 [.bool d,iL C]).bind λt=> (asLst 1 t[0]?).bind λD=>(asBool t[1]?).bind λE=>some [iL D,.bool E])))):=by kernel_rfl
theorem qtn:evF En (n+1) 142 [iL a,.bool b,iL c,.bool d] =
(cond b (cond (!d) (some [iI (-1)]) (cond (!b) (cond d (some [iI 1]) (cond b ((evF En n 202 [iL c,iL a]).bind λp=> (asInt .i64 p[0]?).bind λq=>some [iI q]) ((evF En n 202 [iL a,iL c]).bind λr=> (asInt .i64 r[0]?).bind λs=>some [iI s]))) (cond b ((evF En n 202 [iL c,iL a]).bind λt=> (asInt .i64 t[0]?).bind λu=>some [iI u]) ((evF En n 202 [iL a,iL c]).bind λv=> (asInt .i64 v[0]?).bind λw=>some [iI w])))) (cond (!b) (cond d (some [iI 1]) (cond b ((evF En n 202 [iL c,iL a]).bind λx=> (asInt .i64 x[0]?).bind λy=>some [iI y]) ((evF En n 202 [iL a,iL c]).bind λz=> (asInt .i64 z[0]?).bind λA=>some [iI A]))) (cond b ((evF En n 202 [iL c,iL a]).bind λB=> (asInt .i64 B[0]?).bind λC=>some [iI C]) ((evF En n 202 [iL a,iL c]).bind λD=> (asInt .i64 D[0]?).bind λE=>some [iI E])))):=by kernel_rfl
theorem qto:evF En (n+1) 143 [iL a,.bool b,iL c,.bool d]=(evF En n 203 [iL a,iL c]).bind λp=> (asLst 1 p[0]?).bind λt=>(asLst 1 p[1]?).bind λu=>(asInt .i64 (p[2]?)).bind λq=>
(cond (q !=0) (some [iL [],.bool false,iL [],.bool false,iI q]) ((evF En n 199 [.bool (!(b==d)),iL t]).bind λr=> (asLst 1 r[0]?).bind λv=>(asBool r[1]?).bind λw=>(evF En n 199 [.bool b,iL u]).bind λs=> (asLst 1 s[0]?).bind λx=>(asBool s[1]?).bind λy=>some [iL v,.bool w,iL x,.bool y,iI 0])):=by kernel_rfl
theorem num_Of_eq:evF En (n+1) 144 [iI k] =
(cond (k<0) ((evF En n 204 [.int .u64 (IntKind.wrap .u64 (0-(IntKind.wrap .u64 k)))]).bind λr=> (asLst 1 r[0]?).bind λs=>(evF En n 199 [.bool true,iL s]).bind λp=> (asLst 1 p[0]?).bind λt=>(asBool p[1]?).bind λu=>some [iL t,.bool u]) ((evF En n 204 [.int .u64 (IntKind.wrap .u64 k)]).bind λv=> (asLst 1 v[0]?).bind λw=>(evF En n 199 [.bool false,iL w]).bind λq=> (asLst 1 q[0]?).bind λx=>(asBool q[1]?).bind λy=>some [iL x,.bool y])):=by kernel_rfl
theorem qth:evF En (n+1) 145 [iL a,.bool b] =
(cond b (some [iI (-1)]) ((evF En n 198 [iL a,.bool b]).bind λp=> (asBool p[0]?).bind λq=>
(cond q (some [iI 0]) (some [iI 1])))):=by kernel_rfl
theorem qtz(n:Nat)  : evF En (n+1) 146 []=(evF En n 144 [iI 1]).bind λp=> (asLst 1 p[0]?).bind λq=>(asBool p[1]?).bind λr=>some [iL q,.bool r]:=by kernel_rfl
theorem qti:evF En (n+1) 147 [iL a,.bool b]=(evF En n 199 [.bool (!b),iL a]).bind λp=> (asLst 1 p[0]?).bind λq=>(asBool p[1]?).bind λr=>some [iL q,.bool r]:=by kernel_rfl
theorem qu3:evF En (n+1) 154 (iL a::kQ b c d g [.bool f,iL j,.bool i])=(evF En n 173 [iL a,.bool b,iL g,.bool f]).bind λq=> (asLst 1 q[0]?).bind λu=>(asBool q[1]?).bind λv=>(evF En n 140 [iL a,.bool b,iL c,.bool d]).bind λr=> (asLst 1 r[0]?).bind λw=>(asBool r[1]?).bind λx=>(evF En n 140 [iL g,.bool f,iL j,.bool i]).bind λs=> (asLst 1 s[0]?).bind λy=>(asBool s[1]?).bind λz=>(evF En n 173 [iL w,.bool x,iL y,.bool z]).bind λt=> (asLst 1 t[0]?).bind λA=>(asBool t[1]?).bind λB=>(evF En n 178 [iL u,.bool v,iL A,.bool B]).bind λp=> (asLst 1 p[0]?).bind λC=>(asBool p[1]?).bind λD=>(asLst 1 p[2]?).bind λE=>(asBool p[3]?).bind λF=>(asInt .i64 p[4]?).bind λG=>some [iL C,.bool D,iL E,.bool F]:=by kernel_rfl
theorem qly:evF En (n+1) 167 [iL a,.bool b,iL c,.bool d]=(evF En n 140 [iL a,.bool b,iL c,.bool d]).bind λq=> (asLst 1 q[0]?).bind λt=>(asBool q[1]?).bind λu=>(evF En n 146 []).bind λr=> (asLst 1 r[0]?).bind λv=>(asBool r[1]?).bind λw=>(evF En n 142 [iL t,.bool u,iL v,.bool w]).bind λx=> (asInt .i64 (x[0]?)).bind λy=>
(cond (y==0) ((evF En n 85 [iL a,.bool b]).bind λz=> (asStr z[0]?).bind λA=>some [.str A]) ((evF En n 85 [iL a,.bool b]).bind λB=> (asStr B[0]?).bind λp=>
(cond (((p.size+1):Int)>9223372036854775807) none ((evF En n 85 [iL c,.bool d]).bind λC=> (asStr C[0]?).bind λs=>
(cond ((((p++{ data:=#[47] }).size+s.size):Int)>9223372036854775807) none (some [.str ((p++{ data:=#[47] })++s)])))))):=by kernel_rfl
theorem qu2:evF En (n+1) 169 [iL a,.bool b,iL c,.bool d]=(evF En n 147 [iL a,.bool b]).bind λp=> (asLst 1 p[0]?).bind λr=>(asBool p[1]?).bind λs=>(evF En n 140 [iL a,.bool b,iL c,.bool d]).bind λq=> (asLst 1 q[0]?).bind λt=>(asBool q[1]?).bind λu=>some [iL r,.bool s,iL t,.bool u]:=by kernel_rfl
theorem qtm:evF En (n+1) 173 [iL a,.bool b,iL c,.bool d]=(evF En n 212 [iL a,iL c]).bind λq=> (asLst 1 q[0]?).bind λr=>(evF En n 199 [.bool (!(b==d)),iL r]).bind λp=> (asLst 1 p[0]?).bind λs=>(asBool p[1]?).bind λt=>some [iL s,.bool t]:=by kernel_rfl
theorem qbx:evF En (n+1) 177 [.str e]=(evF En n 215 [.str e,.str { data:=#[45] }]).bind λr=> (asStr r[0]?).bind λv=>(asBool r[1]?).bind λp=>(evF En n 216 [.str v]).bind λs=> (asLst 1 s[0]?).bind λq=>(asInt .i64 (s[1]?)).bind λw=>
(cond (w !=0) (some [iL [],.bool false,iI 10]) (cond p ((evF En n 217 [iL q]).bind λx=> (asInt .i64 (x[0]?)).bind λy=>
(cond (y==0) (some [iL [],.bool false,iI 10]) ((evF En n 199 [.bool p,iL q]).bind λt=> (asLst 1 t[0]?).bind λz=>(asBool t[1]?).bind λA=>some [iL z,.bool A,iI 0]))) ((evF En n 199 [.bool p,iL q]).bind λu=> (asLst 1 u[0]?).bind λB=>(asBool u[1]?).bind λC=>some [iL B,.bool C,iI 0]))):=by kernel_rfl
theorem qha:evF En (n+1) 178 [iL a,.bool b,iL c,.bool d]=(evF En n 145 [iL c,.bool d]).bind λI=> (asInt .i64 (I[0]?)).bind λB=>
(cond (B==0) (some [iL [],.bool false,iL [],.bool false,iI 12]) (cond (B==(-1)) ((evF En n 147 [iL a,.bool b]).bind λC=> (asLst 1 C[0]?).bind λt=>(asBool C[1]?).bind λu=>(evF En n 147 [iL c,.bool d]).bind λD=> (asLst 1 D[0]?).bind λv=>(asBool D[1]?).bind λw=>(evF En n 218 [iL t,.bool u]).bind λJ=> (asLst 1 J[0]?).bind λK=>(evF En n 218 [iL v,.bool w]).bind λM=> (asLst 1 M[0]?).bind λN=>(evF En n 219 [iL K,iL N]).bind λO=> (asLst 1 O[0]?).bind λP=>(evF En n 199 [.bool false,iL P]).bind λE=> (asLst 1 E[0]?).bind λx=>(asBool E[1]?).bind λy=>(evF En n 146 []).bind λF=> (asLst 1 F[0]?).bind λQ=>(asBool F[1]?).bind λR=>(evF En n 142 [iL x,.bool y,iL Q,.bool R]).bind λS=> (asInt .i64 (S[0]?)).bind λT=>
(cond (T !=0) ((evF En n 143 [iL t,.bool u,iL x,.bool y]).bind λp=> (asLst 1 p[0]?).bind λU=>(asBool p[1]?).bind λV=>(asLst 1 p[2]?).bind λv25=>(asBool p[3]?).bind λc26=>(asInt .i64 p[4]?).bind λn27=>(evF En n 143 [iL v,.bool w,iL x,.bool y]).bind λq=> (asLst 1 q[0]?).bind λW=>(asBool q[1]?).bind λX=>(asLst 1 q[2]?).bind λv31=>(asBool q[3]?).bind λc32=>(asInt .i64 q[4]?).bind λn33=>some [iL U,.bool V,iL W,.bool X,iI 0]) (some [iL t,.bool u,iL v,.bool w,iI 0]))) ((evF En n 218 [iL a,.bool b]).bind λY=> (asLst 1 Y[0]?).bind λZ=>(evF En n 218 [iL c,.bool d]).bind λr36=> (asLst 1 r36[0]?).bind λv37=>(evF En n 219 [iL Z,iL v37]).bind λr38=> (asLst 1 r38[0]?).bind λv39=>(evF En n 199 [.bool false,iL v39]).bind λG=> (asLst 1 G[0]?).bind λz=>(asBool G[1]?).bind λA=>(evF En n 146 []).bind λH=> (asLst 1 H[0]?).bind λv44=>(asBool H[1]?).bind λc45=>(evF En n 142 [iL z,.bool A,iL v44,.bool c45]).bind λr46=> (asInt .i64 (r46[0]?)).bind λn47=>
(cond (n47 !=0) ((evF En n 143 [iL a,.bool b,iL z,.bool A]).bind λr=> (asLst 1 r[0]?).bind λv49=>(asBool r[1]?).bind λc50=>(asLst 1 r[2]?).bind λv51=>(asBool r[3]?).bind λc52=>(asInt .i64 r[4]?).bind λn53=>(evF En n 143 [iL c,.bool d,iL z,.bool A]).bind λs=> (asLst 1 s[0]?).bind λv55=>(asBool s[1]?).bind λc56=>(asLst 1 s[2]?).bind λv57=>(asBool s[3]?).bind λc58=>(asInt .i64 s[4]?).bind λn59=>some [iL v49,.bool c50,iL v55,.bool c56,iI 0]) (some [iL a,.bool b,iL c,.bool d,iI 0]))))):=by kernel_rfl
theorem qtf:evF En (n+1) 198 [iL a,.bool b]=(evF En n 217 [iL a]).bind λp=> (asInt .i64 p[0]?).bind λq=>some [.bool (q==0)]:=by kernel_rfl
theorem qtg:evF En (n+1) 199 [.bool o,iL l] =
(cond o ((evF En n 217 [iL l]).bind λp=> (asInt .i64 p[0]?).bind λq=>some [iL l,.bool (decide (q>0))]) (some [iL l,.bool false])):=by kernel_rfl
theorem qtr:evF En (n+1) 215 [.str e,.str h]=(evF En n 247 [.str e,.str h]).bind λp=> (asStr p[0]?).bind λq=>(asBool p[1]?).bind λr=>some [.str q,.bool r]:=by kernel_rfl
theorem qtj:evF En (n+1) 218 [iL a,.bool b]=some [iL a]:=by kernel_rfl
theorem qts:evF En (n+1) 247 [.str e,.str h]=(evF En n 255 [.str e,.str h]).bind λp=> (asBool p[0]?).bind λq=>
(cond (!q) (some [.str e,.bool false]) ((bd (h.size:Int) e.size).bind λr=> some [.str (e.extract r e.size),.bool true])):=by kernel_rfl
theorem qtt:evF En (n+1) 255 [.str e,.str h] =
(cond ((e.size:Int)≥(h.size:Int)) ((bd (h.size:Int) e.size).bind λp=> some [.bool ((e.extract 0 p).toList==h.toList)]) (some [.bool false])):=by kernel_rfl
end
section
theorem qgg(n:Nat)(l0:List FV)(b1:Bool)(l2:List FV)(b3:Bool)(l4:List FV)(b5:Bool)(l6:List FV)(b7:Bool)  : evF En (n+1) 172 (iL l0::kQ b1 l2 b3 l4 [.bool b5,iL l6,.bool b7,.raw (Go.Value.func (Go.Fn.func 141) #[] #[])])=(evF En n 140 [iL l0,.bool b1,iL l2,.bool b3]).bind λc=> (asLst 1 c[0]?).bind λA=>(asBool c[1]?).bind λB=>(evF En n 146 []).bind λd=> (asLst 1 d[0]?).bind λC=>(asBool d[1]?).bind λD=>(evF En n 142 [iL A,.bool B,iL C,.bool D]).bind λE=> (asInt .i64 (E[0]?)).bind λF=>
(cond (F==0) ((evF En n 140 [iL l4,.bool b5,iL l6,.bool b7]).bind λe=> (asLst 1 e[0]?).bind λG=>(asBool e[1]?).bind λH=>(evF En n 146 []).bind λf=> (asLst 1 f[0]?).bind λI=>(asBool f[1]?).bind λJ=>(evF En n 142 [iL G,.bool H,iL I,.bool J]).bind λK=> (asInt .i64 (K[0]?)).bind λM=>
(cond (M==0) ((evF En n 141 [iL l0,.bool b1,iL l4,.bool b5]).bind λg=> (asLst 1 g[0]?).bind λN=>(asBool g[1]?).bind λO=>(evF En n 146 []).bind λh=> (asLst 1 h[0]?).bind λP=>(asBool h[1]?).bind λQ=>some [iL N,.bool O,iL P,.bool Q]) ((evF En n 140 [iL l4,.bool b5,iL l6,.bool b7]).bind λi=> (asLst 1 i[0]?).bind λR=>(asBool i[1]?).bind λS=>(evF En n 173 [iL l0,.bool b1,iL R,.bool S]).bind λj=> (asLst 1 j[0]?).bind λT=>(asBool j[1]?).bind λU=>(evF En n 140 [iL l0,.bool b1,iL l2,.bool b3]).bind λk=> (asLst 1 k[0]?).bind λV=>(asBool k[1]?).bind λW=>(evF En n 173 [iL l4,.bool b5,iL V,.bool W]).bind λl=> (asLst 1 l[0]?).bind λX=>(asBool l[1]?).bind λY=>(evF En n 141 [iL T,.bool U,iL X,.bool Y]).bind λo=> (asLst 1 o[0]?).bind λZ=>(asBool o[1]?).bind λc36=>(evF En n 140 [iL l0,.bool b1,iL l2,.bool b3]).bind λp=> (asLst 1 p[0]?).bind λv38=>(asBool p[1]?).bind λc39=>(evF En n 140 [iL l4,.bool b5,iL l6,.bool b7]).bind λq=> (asLst 1 q[0]?).bind λv41=>(asBool q[1]?).bind λc42=>(evF En n 173 [iL v38,.bool c39,iL v41,.bool c42]).bind λr=> (asLst 1 r[0]?).bind λv44=>(asBool r[1]?).bind λc45=>(evF En n 178 [iL Z,.bool c36,iL v44,.bool c45]).bind λa=> (asLst 1 a[0]?).bind λv47=>(asBool a[1]?).bind λc48=>(asLst 1 a[2]?).bind λv49=>(asBool a[3]?).bind λc50=>(asInt .i64 a[4]?).bind λn51=>some [iL v47,.bool c48,iL v49,.bool c50]))) ((evF En n 140 [iL l4,.bool b5,iL l6,.bool b7]).bind λs=> (asLst 1 s[0]?).bind λv53=>(asBool s[1]?).bind λc54=>(evF En n 173 [iL l0,.bool b1,iL v53,.bool c54]).bind λt=> (asLst 1 t[0]?).bind λv56=>(asBool t[1]?).bind λc57=>(evF En n 140 [iL l0,.bool b1,iL l2,.bool b3]).bind λu=> (asLst 1 u[0]?).bind λv59=>(asBool u[1]?).bind λc60=>(evF En n 173 [iL l4,.bool b5,iL v59,.bool c60]).bind λv=> (asLst 1 v[0]?).bind λv62=>(asBool v[1]?).bind λc63=>(evF En n 141 [iL v56,.bool c57,iL v62,.bool c63]).bind λw=> (asLst 1 w[0]?).bind λv65=>(asBool w[1]?).bind λc66=>(evF En n 140 [iL l0,.bool b1,iL l2,.bool b3]).bind λx=> (asLst 1 x[0]?).bind λv68=>(asBool x[1]?).bind λc69=>(evF En n 140 [iL l4,.bool b5,iL l6,.bool b7]).bind λy=> (asLst 1 y[0]?).bind λv71=>(asBool y[1]?).bind λc72=>(evF En n 173 [iL v68,.bool c69,iL v71,.bool c72]).bind λz=> (asLst 1 z[0]?).bind λv74=>(asBool z[1]?).bind λc75=>(evF En n 178 [iL v65,.bool c66,iL v74,.bool c75]).bind λb=> (asLst 1 b[0]?).bind λv77=>(asBool b[1]?).bind λc78=>(asLst 1 b[2]?).bind λv79=>(asBool b[3]?).bind λc80=>(asInt .i64 b[4]?).bind λn81=>some [iL v77,.bool c78,iL v79,.bool c80])):=by kernel_rfl
end
section
theorem qhd(n:Nat)(l0:List FV)(b1:Bool)(l2:List FV)(b3:Bool)(l4:List FV)(b5:Bool)(l6:List FV)(b7:Bool)  : evF En (n+1) 172 (iL l0::kQ b1 l2 b3 l4 [.bool b5,iL l6,.bool b7,.raw (Go.Value.func (Go.Fn.func 84) #[] #[])])=(evF En n 140 [iL l0,.bool b1,iL l2,.bool b3]).bind λc=> (asLst 1 c[0]?).bind λA=>(asBool c[1]?).bind λB=>(evF En n 146 []).bind λd=> (asLst 1 d[0]?).bind λC=>(asBool d[1]?).bind λD=>(evF En n 142 [iL A,.bool B,iL C,.bool D]).bind λE=> (asInt .i64 (E[0]?)).bind λF=>
(cond (F==0) ((evF En n 140 [iL l4,.bool b5,iL l6,.bool b7]).bind λe=> (asLst 1 e[0]?).bind λG=>(asBool e[1]?).bind λH=>(evF En n 146 []).bind λf=> (asLst 1 f[0]?).bind λI=>(asBool f[1]?).bind λJ=>(evF En n 142 [iL G,.bool H,iL I,.bool J]).bind λK=> (asInt .i64 (K[0]?)).bind λM=>
(cond (M==0) ((evF En n 84 [iL l0,.bool b1,iL l4,.bool b5]).bind λg=> (asLst 1 g[0]?).bind λN=>(asBool g[1]?).bind λO=>(evF En n 146 []).bind λh=> (asLst 1 h[0]?).bind λP=>(asBool h[1]?).bind λQ=>some [iL N,.bool O,iL P,.bool Q]) ((evF En n 140 [iL l4,.bool b5,iL l6,.bool b7]).bind λi=> (asLst 1 i[0]?).bind λR=>(asBool i[1]?).bind λS=>(evF En n 173 [iL l0,.bool b1,iL R,.bool S]).bind λj=> (asLst 1 j[0]?).bind λT=>(asBool j[1]?).bind λU=>(evF En n 140 [iL l0,.bool b1,iL l2,.bool b3]).bind λk=> (asLst 1 k[0]?).bind λV=>(asBool k[1]?).bind λW=>(evF En n 173 [iL l4,.bool b5,iL V,.bool W]).bind λl=> (asLst 1 l[0]?).bind λX=>(asBool l[1]?).bind λY=>(evF En n 84 [iL T,.bool U,iL X,.bool Y]).bind λo=> (asLst 1 o[0]?).bind λZ=>(asBool o[1]?).bind λc36=>(evF En n 140 [iL l0,.bool b1,iL l2,.bool b3]).bind λp=> (asLst 1 p[0]?).bind λv38=>(asBool p[1]?).bind λc39=>(evF En n 140 [iL l4,.bool b5,iL l6,.bool b7]).bind λq=> (asLst 1 q[0]?).bind λv41=>(asBool q[1]?).bind λc42=>(evF En n 173 [iL v38,.bool c39,iL v41,.bool c42]).bind λr=> (asLst 1 r[0]?).bind λv44=>(asBool r[1]?).bind λc45=>(evF En n 178 [iL Z,.bool c36,iL v44,.bool c45]).bind λa=> (asLst 1 a[0]?).bind λv47=>(asBool a[1]?).bind λc48=>(asLst 1 a[2]?).bind λv49=>(asBool a[3]?).bind λc50=>(asInt .i64 a[4]?).bind λn51=>some [iL v47,.bool c48,iL v49,.bool c50]))) ((evF En n 140 [iL l4,.bool b5,iL l6,.bool b7]).bind λs=> (asLst 1 s[0]?).bind λv53=>(asBool s[1]?).bind λc54=>(evF En n 173 [iL l0,.bool b1,iL v53,.bool c54]).bind λt=> (asLst 1 t[0]?).bind λv56=>(asBool t[1]?).bind λc57=>(evF En n 140 [iL l0,.bool b1,iL l2,.bool b3]).bind λu=> (asLst 1 u[0]?).bind λv59=>(asBool u[1]?).bind λc60=>(evF En n 173 [iL l4,.bool b5,iL v59,.bool c60]).bind λv=> (asLst 1 v[0]?).bind λv62=>(asBool v[1]?).bind λc63=>(evF En n 84 [iL v56,.bool c57,iL v62,.bool c63]).bind λw=> (asLst 1 w[0]?).bind λv65=>(asBool w[1]?).bind λc66=>(evF En n 140 [iL l0,.bool b1,iL l2,.bool b3]).bind λx=> (asLst 1 x[0]?).bind λv68=>(asBool x[1]?).bind λc69=>(evF En n 140 [iL l4,.bool b5,iL l6,.bool b7]).bind λy=> (asLst 1 y[0]?).bind λv71=>(asBool y[1]?).bind λc72=>(evF En n 173 [iL v68,.bool c69,iL v71,.bool c72]).bind λz=> (asLst 1 z[0]?).bind λv74=>(asBool z[1]?).bind λc75=>(evF En n 178 [iL v65,.bool c66,iL v74,.bool c75]).bind λb=> (asLst 1 b[0]?).bind λv77=>(asBool b[1]?).bind λc78=>(asLst 1 b[2]?).bind λv79=>(asBool b[3]?).bind λc80=>(asInt .i64 b[4]?).bind λn81=>some [iL v77,.bool c78,iL v79,.bool c80])):=by kernel_rfl
end
section
variable (n m:Nat)
variable (a b g h l r:List FV)
variable (o:Nat)
variable (q k:ByteArray)
variable (p i c d e f j:Int)
def q23.l4(n:Nat):=Lp En n 78 [1,1,0,1,0]
def q23.l10(n:Nat):=Lp En n 78 [1,1,1,1,0,1,0]
def q23.l14(n:Nat):=Lp En n 78 [1,1,1,1,0,1,0,0,1,0,0,1,0,1,0]
theorem q23.q13:q23.l4 n [] (m+1) [iL a,.str k,iI c] =
(cond (c<(k.size:Int)) ((q2p k c).bind λs=>
(cond (s<48) (some [iL [],iI 10]) ((q2p k c).bind λt=>
(cond (t>57) (some [iL [],iI 10]) (q23.l4 n [] m [iL a,.str k,iI (w6 (c+1))]))))) (q23.l10 n [] n [iL a,.str k,iL (qb 0 (iI 0) []),iI (k.size:Int)])):=by kernel_rfl
theorem q23.q45:q23.l10 n [] (m+1) [iL a,.str k,iL g,iI d] =
(cond (d>0) (q23.l14 n [m] n [iL a,.str k,iL g,iI d,iI 0,iI (if 0<(w6 (d-9))then(w6 (d-9))else 0)]) ((evF En n 134 [iL g]).bind λs=> (asLst 1 s[0]?).bind λt=>some [iL t,iI 0])):=by kernel_rfl
theorem q23.l14_eq:q23.l14 n [o] (m+1) [iL a,.str k,iL g,iI d,iI e,iI f] =
(cond (f<d) ((q2p k f).bind λs=> q23.l14 n [o] m [iL a,.str k,iL g,iI d,iI (w6 ((w6 (e*10))+(w6 (IntKind.wrap .u8 (s-48))))),iI (w6 (f+1))]) (cond (Nat.ble (g.length+(qb 1 (iI 0) [(0,(iI e))]).length) 17592186044416) (q23.l10 n [] o [iL a,.str k,iL (g++(qb 1 (iI 0) [(0,(iI e))])),iI (w6 (d-9))]) none)):=by kernel_rfl
theorem qkx:evF En (n+1) 78 [.str q] =
(cond ((q.size:Int)==0) (some [iL [],iI 10]) (cond ((q.size:Int)>1) ((q2p q 0).bind λs=>
(cond (s==48) (some [iL [],iI 10]) (q23.l4 n [] n [iL [],.str q,iI 0]))) (q23.l4 n [] n [iL [],.str q,iI 0]))):=by kernel_rfl
def q21.l5(n:Nat):=Lp En n 96 [1,1,1,0,1,0]
def q21.l9(n:Nat):=Lp En n 96 [1,1,1,0,1,0,0,1,0,0,1,1,0]
def q21.l15(n:Nat):=Lp En n 96 [1,1,1,1,1,0,1,0]
theorem q21.q1h:q21.l5 n [] (m+1) [iL a,iL b,iI c] =
(cond (c<(a.length:Int)) ((ix c a.length).bind λs=> (asInt .i64 (at' a s 0)).bind λt=> q21.l9 n [m] n [iL a,iL b,iI c,iI t,iI 0]) (q21.l15 n [] n [iL b,iL (qb 0 (.int .u8 0) []),iI (w6 ((b.length:Int)-1))])):=by kernel_rfl
theorem q21.q3n:q21.l9 n [o] (m+1) [iL a,iL b,iI c,iI d,iI e] =
(cond (e<9) (cond (d>0) (cond (Nat.ble (b.length+(qb 1 (.int .u8 0) [(0,(.int .u8 (IntKind.wrap .u8 (w6 (48+(Int.tmod d 10))))))]).length) 140737488355328) (q21.l9 n [o] m [iL a,iL (b++(qb 1 (.int .u8 0) [(0,(.int .u8 (IntKind.wrap .u8 (w6 (48+(Int.tmod d 10))))))])),iI c,iI (w6 (Int.tdiv d 10)),iI (w6 (e+1))]) none) (cond ((w6 (c+1))<(a.length:Int)) (cond (Nat.ble (b.length+(qb 1 (.int .u8 0) [(0,(.int .u8 (IntKind.wrap .u8 (w6 (48+(Int.tmod d 10))))))]).length) 140737488355328) (q21.l9 n [o] m [iL a,iL (b++(qb 1 (.int .u8 0) [(0,(.int .u8 (IntKind.wrap .u8 (w6 (48+(Int.tmod d 10))))))])),iI c,iI (w6 (Int.tdiv d 10)),iI (w6 (e+1))]) none) (q21.l5 n [] o [iL a,iL b,iI (w6 (c+1))]))) (q21.l5 n [] o [iL a,iL b,iI (w6 (c+1))])):=by kernel_rfl
theorem q21.qbm:q21.l15 n [] (m+1) [iL a,iL b,iI c] =
(cond (c≥0) ((ix c a.length).bind λt=> (asInt .u8 (at' a t 0)).bind λs=>
(cond (Nat.ble (b.length+(qb 1 (.int .u8 0) [(0,(.int .u8 s))]).length) 140737488355328) (q21.l15 n [] m [iL a,iL (b++(qb 1 (.int .u8 0) [(0,(.int .u8 s))])),iI (w6 (c-1))]) none)) ((bytesO b).bind λu=> some [.str u])):=by kernel_rfl
theorem qso:evF En (n+1) 96 [iL a] =
(cond ((a.length:Int)==0) (some [.str { data:=#[48] }]) (q21.l5 n [] n [iL a,iL (qb 0 (.int .u8 0) []),iI 0])):=by kernel_rfl
def q9y.l2(n:Nat):=Lp En n 102 [1,1,0,0]
theorem q9y.qt:q9y.l2 n [] (m+1) [iL a,.int .u64 i,iL g] =
(cond (i>0) (cond (Nat.ble (g.length+(qb 1 (iI 0) [(0,(iI (w6 (Int.tmod i 1000000000))))]).length) 17592186044416) (q9y.l2 n [] m [iL a,.int .u64 (IntKind.wrap .u64 (Int.tdiv i 1000000000)),iL (g++(qb 1 (iI 0) [(0,(iI (w6 (Int.tmod i 1000000000))))]))]) none) (some [iL g])):=by kernel_rfl
theorem qi5:evF En (n+1) 102 [.int .u64 p]=q9y.l2 n [] n [iL [],.int .u64 p,iL (qb 0 (iI 0) [])]:=by kernel_rfl
def q3m.l5(n:Nat):=Lp En n 103 [1,1,1,0,1,0]
def q3m.l9(n:Nat):=Lp En n 103 [1,1,1,0,1,0,0,1,0,0,1,0,1,0]
theorem q3m.q1h:q3m.l5 n [] (m+1) [iL a,iL b,iL g,iL h,iI e] =
(cond (e<(a.length:Int)) (q3m.l9 n [m] n [iL a,iL b,iL g,iL h,iI e,iI 0,iI 0]) ((evF En n 134 [iL h]).bind λs=> (asLst 1 s[0]?).bind λt=>some [iL t])):=by kernel_rfl
theorem q3m.q3n:q3m.l9 n [o] (m+1) [iL a,iL b,iL g,iL h,iI e,iI f,iI j] =
(cond (j<(b.length:Int)) ((ix (w6 (e+j)) h.length).bind λv=> (asInt .i64 (at' h v 0)).bind λs=> (ix e a.length).bind λw=> (asInt .i64 (at' a w 0)).bind λt=> (ix j b.length).bind λx=> (asInt .i64 (at' b x 0)).bind λu=> (ix (w6 (e+j)) h.length).bind λy=> q3m.l9 n [o] m [iL a,iL b,iL g,iL (List.set h y (iI (Int.tmod (w6 ((w6 (f+s))+(w6 (t*u)))) 1000000000))),iI e,iI (w6 (Int.tdiv (w6 ((w6 (f+s))+(w6 (t*u)))) 1000000000)),iI (w6 (j+1))]) ((ix (w6 (e+(b.length:Int))) h.length).bind λz=> q3m.l5 n [] o [iL a,iL b,iL g,iL (List.set h z (iI f)),iI (w6 (e+1))])):=by kernel_rfl
theorem qnt:evF En (n+1) 103 [iL a,iL b] =
(cond ((a.length:Int)==0) (some [iL []]) (cond ((b.length:Int)==0) (some [iL []]) ((q1p 8 (w6 ((a.length:Int)+(b.length:Int)))).bind λs=> (bd (w6 ((a.length:Int)+(b.length:Int))) s).bind λt=> q3m.l5 n [] n [iL a,iL b,iL [],iL (List.replicate t (iI 0:FV)),iI 0]))):=by kernel_rfl
def q8s.l1(n:Nat):=Lp En n 134 [1,0,0]
theorem q8s.q2v:q8s.l1 n [] (m+1) [iL a,iL b] =
(cond ((b.length:Int)>0) ((ix (w6 ((b.length:Int)-1)) b.length).bind λs=> (asInt .i64 (at' b s 0)).bind λt=>
(cond (t==0) ((bd (w6 ((b.length:Int)-1)) b.length).bind λu=> q8s.l1 n [] m [iL a,iL (List.drop 0 (List.take u b))]) (some [iL b]))) (some [iL b])):=by kernel_rfl
theorem qnl:evF En (n+1) 134 [iL a]=q8s.l1 n [] n [iL [],iL a]:=by kernel_rfl
def q64.l1(n:Nat):=Lp En n 135 [1,0,0]
theorem q64.q2v:q64.l1 n [] (m+1) [iL a,iL b,iL g] =
(cond ((b.length:Int)>0) (cond ((a.length:Int)<=2) (cond ((b.length:Int)<=2) ((evF En n 185 [iL a]).bind λu=> (asInt .u64 u[0]?).bind λv=>(evF En n 185 [iL b]).bind λw=> (asInt .u64 w[0]?).bind λx=>(evF En n 184 [.int .u64 v,.int .u64 x]).bind λy=> (asInt .u64 y[0]?).bind λz=>(evF En n 102 [.int .u64 z]).bind λA=> (asLst 1 A[0]?).bind λB=>some [iL B]) ((evF En n 186 [iL a,iL b]).bind λs=> (asLst 1 s[0]?).bind λE=>(asLst 1 s[1]?).bind λC=>(asInt .i64 s[2]?).bind λF=>q64.l1 n [] m [iL b,iL C,iL g])) ((evF En n 186 [iL a,iL b]).bind λt=> (asLst 1 t[0]?).bind λG=>(asLst 1 t[1]?).bind λD=>(asInt .i64 t[2]?).bind λH=>q64.l1 n [] m [iL b,iL D,iL g])) (some [iL a])):=by kernel_rfl
theorem qo3:evF En (n+1) 135 [iL a,iL b]=q64.l1 n [] n [iL a,iL b,iL []]:=by kernel_rfl
def q7a.l4(n:Nat):=Lp En n 163 [1,1,1,0,1,0]
theorem q7a.q13:q7a.l4 n [] (m+1) [iL a,iL b,iL g,iL h,iI e,iI f] =
(cond (f<(a.length:Int)) ((evF En n 211 [iL a,iI f]).bind λw=> (asInt .i64 w[0]?).bind λs=>(evF En n 211 [iL b,iI f]).bind λx=> (asInt .i64 (x[0]?)).bind λt=>
(cond (Nat.ble (h.length+(qb 1 (iI 0) [(0,(iI (Int.tmod (w6 ((w6 (e+s))+t)) 1000000000)))]).length) 17592186044416) (q7a.l4 n [] m [iL a,iL b,iL g,iL (h++(qb 1 (iI 0) [(0,(iI (Int.tmod (w6 ((w6 (e+s))+t)) 1000000000)))])),iI (w6 (Int.tdiv (w6 ((w6 (e+s))+t)) 1000000000)),iI (w6 (f+1))]) none)) (cond (f<(b.length:Int)) ((evF En n 211 [iL a,iI f]).bind λy=> (asInt .i64 y[0]?).bind λu=>(evF En n 211 [iL b,iI f]).bind λz=> (asInt .i64 (z[0]?)).bind λv=>
(cond (Nat.ble (h.length+(qb 1 (iI 0) [(0,(iI (Int.tmod (w6 ((w6 (e+u))+v)) 1000000000)))]).length) 17592186044416) (q7a.l4 n [] m [iL a,iL b,iL g,iL (h++(qb 1 (iI 0) [(0,(iI (Int.tmod (w6 ((w6 (e+u))+v)) 1000000000)))])),iI (w6 (Int.tdiv (w6 ((w6 (e+u))+v)) 1000000000)),iI (w6 (f+1))]) none)) (cond (Nat.ble (h.length+(qb 1 (iI 0) [(0,(iI e))]).length) 17592186044416) ((evF En n 134 [iL (h++(qb 1 (iI 0) [(0,(iI e))]))]).bind λA=> (asLst 1 A[0]?).bind λB=>some [iL B]) none))):=by kernel_rfl
theorem qnq:evF En (n+1) 163 [iL a,iL b]=q7a.l4 n [] n [iL a,iL b,iL [],iL (qb 0 (iI 0) []),iI 0,iI 0]:=by kernel_rfl
def q8u.l2(n:Nat):=Lp En n 164 [1,0,1,0]
theorem q8u.qt:q8u.l2 n [] (m+1) [iL a,iL b,iI c] =
(cond (c≥0) ((evF En n 211 [iL a,iI c]).bind λs=> (asInt .i64 s[0]?).bind λt=>(evF En n 211 [iL b,iI c]).bind λu=> (asInt .i64 (u[0]?)).bind λv=>
(cond (t<v) (some [iI (-1)]) ((evF En n 211 [iL a,iI c]).bind λw=> (asInt .i64 w[0]?).bind λx=>(evF En n 211 [iL b,iI c]).bind λy=> (asInt .i64 (y[0]?)).bind λz=>
(cond (x>z) (some [iI 1]) (q8u.l2 n [] m [iL a,iL b,iI (w6 (c-1))]))))) (some [iI 0])):=by kernel_rfl
theorem qnp:evF En (n+1) 164 [iL a,iL b]=q8u.l2 n [] n [iL a,iL b,iI (w6 ((if(a.length:Int)<(b.length:Int)then(b.length:Int)else(a.length:Int))-1))]:=by kernel_rfl
def q89.l6(n:Nat):=Lp En n 165 [1,1,1,1,0,1,0]
theorem q89.q2n:q89.l6 n [] (m+1) [iL a,iL b,iL g,iL h,iI e,iI f] =
(cond (f<(a.length:Int)) ((ix f a.length).bind λu=> (asInt .i64 (at' a u 0)).bind λs=> (evF En n 211 [iL b,iI f]).bind λv=> (asInt .i64 (v[0]?)).bind λt=>
(cond ((w6 ((w6 (s-t))-e))<0) (cond (Nat.ble (h.length+(qb 1 (iI 0) [(0,(iI (w6 ((w6 ((w6 (s-t))-e))+1000000000))))]).length) 17592186044416) (q89.l6 n [] m [iL a,iL b,iL g,iL (h++(qb 1 (iI 0) [(0,(iI (w6 ((w6 ((w6 (s-t))-e))+1000000000))))])),iI 1,iI (w6 (f+1))]) none) (cond (Nat.ble (h.length+(qb 1 (iI 0) [(0,(iI (w6 ((w6 (s-t))-e))))]).length) 17592186044416) (q89.l6 n [] m [iL a,iL b,iL g,iL (h++(qb 1 (iI 0) [(0,(iI (w6 ((w6 (s-t))-e))))])),iI 0,iI (w6 (f+1))]) none))) ((evF En n 134 [iL h]).bind λw=> (asLst 1 w[0]?).bind λx=>some [iL x,iI 0])):=by kernel_rfl
theorem qnr:evF En (n+1) 165 [iL a,iL b]=(evF En n 164 [iL a,iL b]).bind λs=> (asInt .i64 (s[0]?)).bind λt=>
(cond (t<0) (some [iL [],iI 11]) (q89.l6 n [] n [iL a,iL b,iL [],iL (qb 0 (iI 0) []),iI 0,iI 0])):=by kernel_rfl
def qa0.l1(n:Nat):=Lp En n 184 [1,0,0]
theorem qa0.q2v:qa0.l1 n [] (m+1) [.int .u64 p,.int .u64 i] =
(cond (i>0) (cond (i=0) none (qa0.l1 n [] m [.int .u64 i,.int .u64 (Int.tmod p i)])) (some [.int .u64 p])):=by kernel_rfl
theorem qo2:evF En (n+1) 184 [.int .u64 p,.int .u64 i]=qa0.l1 n [] n [.int .u64 p,.int .u64 i]:=by kernel_rfl
def q8v.l3(n:Nat):=Lp En n 185 [1,1,0,1,0]
theorem q8v.qq:q8v.l3 n [] (m+1) [iL a,.int .u64 i,iI c] =
(cond (c≥0) ((ix c a.length).bind λs=> (asInt .i64 (at' a s 0)).bind λt=> q8v.l3 n [] m [iL a,.int .u64 (IntKind.wrap .u64 ((IntKind.wrap .u64 (i*1000000000))+(IntKind.wrap .u64 t))),iI (w6 (c-1))]) (some [.int .u64 i])):=by kernel_rfl
theorem qnv:evF En (n+1) 185 [iL a]=q8v.l3 n [] n [iL a,.int .u64 0,iI (w6 ((a.length:Int)-1))]:=by kernel_rfl
def q8z.l9(n:Nat):=Lp En n 186 [1,1,1,1,1,0,1,0]
theorem q8z.q3n:q8z.l9 n [] (m+1) [iL a,iL b,iL g,iL h,iL l,iL r,iI j] =
(cond (j≥0) ((ix j a.length).bind λw=> (asInt .i64 (at' a w 0)).bind λx=> (evF En n 221 [iL l,iI x]).bind λy=> (asLst 1 y[0]?).bind λu=>(evF En n 222 [iL u,iL b]).bind λz=> (asInt .i64 z[0]?).bind λs=>(ix j r.length).bind λt=> (ix j (List.set r t (iI s)).length).bind λA=> (asInt .i64 (at' (List.set r t (iI s)) A 0)).bind λB=> (evF En n 223 [iL b,iI B,iI 0]).bind λC=> (asLst 1 C[0]?).bind λD=>(evF En n 165 [iL u,iL D]).bind λv=> (asLst 1 v[0]?).bind λE=>(asInt .i64 v[1]?).bind λH=>q8z.l9 n [] m [iL a,iL b,iL g,iL h,iL E,iL (List.set r t (iI s)),iI (w6 (j-1))]) ((evF En n 134 [iL r]).bind λF=> (asLst 1 F[0]?).bind λG=>some [iL G,iL l,iI 0])):=by kernel_rfl
theorem qo1:evF En (n+1) 186 [iL a,iL b] =
(cond ((b.length:Int)==0) (some [iL [],iL [],iI 12]) (cond ((b.length:Int)==1) ((ix 0 b.length).bind λt=> (asInt .i64 (at' b t 0)).bind λu=> (evF En n 220 [iL a,iI u]).bind λs=> (asLst 1 s[0]?).bind λv=>(asLst 1 s[1]?).bind λw=>some [iL v,iL w,iI 0]) ((q1p 8 (a.length:Int)).bind λx=> (bd (a.length:Int) x).bind λy=> q8z.l9 n [] n [iL a,iL b,iL [],iL [],iL [],iL (List.replicate y (iI 0:FV)),iI (w6 ((a.length:Int)-1))]))):=by kernel_rfl
theorem qnm:evF En (n+1) 211 [iL a,iI i] =
(cond (i<(a.length:Int)) ((ix i a.length).bind λs=> (asInt .i64 (at' a s 0)).bind λt=> some [iI t]) (some [iI 0])):=by kernel_rfl
def q8w.l4(n:Nat):=Lp En n 220 [1,1,1,0,1,0]
theorem q8w.q13:q8w.l4 n [] (m+1) [iL a,iL b,iL g,iI d,iL l,iI f,iI j] =
(cond (j≥0) ((ix j a.length).bind λt=> (asInt .i64 (at' a t 0)).bind λs=>
(cond (d=0) none ((ix j l.length).bind λu=>
(cond (d=0) none (q8w.l4 n [] m [iL a,iL b,iL g,iI d,iL (List.set l u (iI (w6 (Int.tdiv (w6 ((w6 (f*1000000000))+s)) d)))),iI (Int.tmod (w6 ((w6 (f*1000000000))+s)) d),iI (w6 (j-1))]))))) ((evF En n 134 [iL l]).bind λv=> (asLst 1 v[0]?).bind λw=>(evF En n 102 [.int .u64 (IntKind.wrap .u64 f)]).bind λx=> (asLst 1 x[0]?).bind λy=>some [iL w,iL y])):=by kernel_rfl
theorem qnw:evF En (n+1) 220 [iL a,iI i]=(q1p 8 (a.length:Int)).bind λs=> (bd (a.length:Int) s).bind λt=> q8w.l4 n [] n [iL a,iL [],iL [],iI i,iL (List.replicate t (iI 0:FV)),iI 0,iI (w6 ((a.length:Int)-1))]:=by kernel_rfl
theorem qny:evF En (n+1) 221 [iL a,iI i] =
(cond (Nat.ble ((qb 1 (iI 0) [(0,(iI i))]).length+a.length) 17592186044416) ((evF En n 134 [iL ((qb 1 (iI 0) [(0,(iI i))])++a)]).bind λs=> (asLst 1 s[0]?).bind λt=>some [iL t]) none):=by kernel_rfl
def q8x.l3(n:Nat):=Lp En n 222 [1,1,1,0,0]
theorem q8x.qq:q8x.l3 n [] (m+1) [iL a,iL b,iI c,iI d] =
(cond (c<d) ((evF En n 223 [iL b,iI (w6 (Int.tdiv (w6 ((w6 (c+d))+1)) 2)),iI 0]).bind λs=> (asLst 1 s[0]?).bind λt=>(evF En n 164 [iL t,iL a]).bind λu=> (asInt .i64 (u[0]?)).bind λv=>
(cond (v<=0) (q8x.l3 n [] m [iL a,iL b,iI (w6 (Int.tdiv (w6 ((w6 (c+d))+1)) 2)),iI d]) (q8x.l3 n [] m [iL a,iL b,iI c,iI (w6 ((w6 (Int.tdiv (w6 ((w6 (c+d))+1)) 2))-1))]))) (some [iI c])):=by kernel_rfl
theorem qo0:evF En (n+1) 222 [iL a,iL b]=q8x.l3 n [] n [iL a,iL b,iI 0,iI 999999999]:=by kernel_rfl
def q8t.l3(n:Nat):=Lp En n 223 [1,1,0,1,0]
theorem q8t.qq:q8t.l3 n [] (m+1) [iL a,iL b,iI c,iI d,iL l,iI f] =
(cond (f<(a.length:Int)) ((ix f a.length).bind λt=> (asInt .i64 (at' a t 0)).bind λs=>
(cond (Nat.ble (l.length+(qb 1 (iI 0) [(0,(iI (Int.tmod (w6 (d+(w6 (s*c)))) 1000000000)))]).length) 17592186044416) (q8t.l3 n [] m [iL a,iL b,iI c,iI (w6 (Int.tdiv (w6 (d+(w6 (s*c)))) 1000000000)),iL (l++(qb 1 (iI 0) [(0,(iI (Int.tmod (w6 (d+(w6 (s*c)))) 1000000000)))])),iI (w6 (f+1))]) none)) (cond (Nat.ble (l.length+(qb 1 (iI 0) [(0,(iI d))]).length) 17592186044416) ((evF En n 134 [iL (l++(qb 1 (iI 0) [(0,(iI d))]))]).bind λu=> (asLst 1 u[0]?).bind λv=>some [iL v]) none)):=by kernel_rfl
theorem qno:evF En (n+1) 223 [iL a,iI i,iI c]=q8t.l3 n [] n [iL a,iL [],iI i,iI c,iL (qb 0 (iI 0) []),iI 0]:=by kernel_rfl
end
section
variable (n m:Nat)
variable (b d f j:Bool)
variable (a c g k:List FV)
variable (i e:ByteArray)
variable (l h:Int)
theorem qoh:evF En (n+1) 12 [iI l]=(evF En n 40 [iI l]).bind λo=> (asBool o[0]?).bind λq=>(asLst 1 o[1]?).bind λr=>(evF En n 40 [iI 1]).bind λp=> (asBool p[0]?).bind λs=>(asLst 1 p[1]?).bind λt=>some (kQ q r s t []):=by kernel_rfl
theorem qol:evF En (n+1) 13 (kQ b a d c (kQ f g j k []))=(evF En n 42 (kQ b a f g [])).bind λp=> (asBool p[0]?).bind λt=>(asLst 1 p[1]?).bind λu=>(evF En n 43 (kQ b a d c [])).bind λq=> (asBool q[0]?).bind λv=>(asLst 1 q[1]?).bind λw=>(evF En n 43 (kQ f g j k [])).bind λr=> (asBool r[0]?).bind λx=>(asLst 1 r[1]?).bind λy=>(evF En n 42 (kQ v w x y [])).bind λs=> (asBool s[0]?).bind λz=>(asLst 1 s[1]?).bind λA=>(evF En n 41 (kQ t u z A [])).bind λo=> (asBool o[0]?).bind λB=>(asLst 1 o[1]?).bind λC=>(asBool o[2]?).bind λD=>(asLst 1 o[3]?).bind λE=>some (kQ B C D E []):=by kernel_rfl
theorem qop:evF En (n+1) 14 (kQ b a d c [])=(evF En n 43 (kQ b a d c [])).bind λp=> (asBool p[0]?).bind λs=>(asLst 1 p[1]?).bind λt=>(evF En n 25 [.bool s,iL t]).bind λu=> (asStr u[0]?).bind λv=>
(cond (v.toList==({ data:=#[49] }:ByteArray).toList) ((evF En n 25 [.bool b,iL a]).bind λw=> (asStr w[0]?).bind λx=>some [.str x]) ((evF En n 25 [.bool b,iL a]).bind λy=> (asStr y[0]?).bind λo=>
(cond (((o.size+1):Int)>9223372036854775807) none ((evF En n 43 (kQ b a d c [])).bind λq=> (asBool q[0]?).bind λz=>(asLst 1 q[1]?).bind λA=>(evF En n 25 [.bool z,iL A]).bind λB=> (asStr B[0]?).bind λr=>
(cond ((((o++{ data:=#[47] }).size+r.size):Int)>9223372036854775807) none (some [.str ((o++{ data:=#[47] })++r)])))))):=by kernel_rfl
def q7j.l2(n:Nat):=Lp En n 22 [1,1,0,0]
theorem q7j.qt:q7j.l2 n [] (m+1) (kQ b a d c [.str e,iI h]) =
(cond (h<(e.size:Int)) ((q2p e h).bind λK=>
(cond (K !=47) (q7j.l2 n [] m (kQ b a d c [.str e,iI (w6 (h+1))])) ((bd h e.size).bind λM=> (evF En n 77 [.str (e.extract 0 M)]).bind λq=> (asBool q[0]?).bind λs=>(asLst 1 q[1]?).bind λt=>(asInt .i64 (q[2]?)).bind λN=>
(cond (N !=0) (some (kQ false [] false [] [iI 10])) (cond (h==(e.size:Int)) ((evF En n 40 [iI 1]).bind λu=> (asBool u[0]?).bind λO=>(asLst 1 u[1]?).bind λP=>some (kQ s t O P [iI 0])) ((bd (w6 (h+1)) e.size).bind λQ=> (evF En n 78 [.str (e.extract Q e.size)]).bind λv=> (asLst 1 v[0]?).bind λR=>(asInt .i64 v[1]?).bind λS=>(evF En n 80 [.bool false,iL R]).bind λw=> (asBool w[0]?).bind λT=>(asLst 1 w[1]?).bind λU=>(evF En n 79 (kQ s t T U [])).bind λo=> (asBool o[0]?).bind λx=>(asLst 1 o[1]?).bind λy=>(asBool o[2]?).bind λz=>(asLst 1 o[3]?).bind λA=>(asInt .i64 (o[4]?)).bind λV=>
(cond (S !=0) (some (kQ false [] false [] [iI 10])) (cond (V !=0) (some (kQ false [] false [] [iI 10])) ((evF En n 14 (kQ x y z A [])).bind λW=> (asStr W[0]?).bind λX=>
(cond (!(X.toList==e.toList)) (some (kQ false [] false [] [iI 10])) (some (kQ x y z A [iI 0])))))))))))) ((bd h e.size).bind λY=> (evF En n 77 [.str (e.extract 0 Y)]).bind λr=> (asBool r[0]?).bind λB=>(asLst 1 r[1]?).bind λC=>(asInt .i64 (r[2]?)).bind λZ=>
(cond (Z !=0) (some (kQ false [] false [] [iI 10])) (cond (h==(e.size:Int)) ((evF En n 40 [iI 1]).bind λD=> (asBool D[0]?).bind λc30=>(asLst 1 D[1]?).bind λv31=>some (kQ B C c30 v31 [iI 0])) ((bd (w6 (h+1)) e.size).bind λi32=> (evF En n 78 [.str (e.extract i32 e.size)]).bind λE=> (asLst 1 E[0]?).bind λv34=>(asInt .i64 E[1]?).bind λn35=>(evF En n 80 [.bool false,iL v34]).bind λF=> (asBool F[0]?).bind λc37=>(asLst 1 F[1]?).bind λv38=>(evF En n 79 (kQ B C c37 v38 [])).bind λp=> (asBool p[0]?).bind λG=>(asLst 1 p[1]?).bind λH=>(asBool p[2]?).bind λI=>(asLst 1 p[3]?).bind λJ=>(asInt .i64 (p[4]?)).bind λn44=>
(cond (n35 !=0) (some (kQ false [] false [] [iI 10])) (cond (n44 !=0) (some (kQ false [] false [] [iI 10])) ((evF En n 14 (kQ G H I J [])).bind λr45=> (asStr r45[0]?).bind λu46=>
(cond (!(u46.toList==e.toList)) (some (kQ false [] false [] [iI 10])) (some (kQ G H I J [iI 0]))))))))))):=by kernel_rfl
theorem qj2:evF En (n+1) 22 [.str i]=q7j.l2 n [] n (kQ false [] false [] [.str i,iI 0]):=by kernel_rfl
theorem qoe:evF En (n+1) 24 (kQ b a d c [])=(evF En n 91 (kQ b a d c [])).bind λv=> (asBool v[0]?).bind λo=>(asLst 1 v[1]?).bind λp=>(evF En n 40 [iI 1]).bind λw=> (asBool w[0]?).bind λD=>(asLst 1 w[1]?).bind λE=>(evF En n 92 (kQ b a d c (kQ o p D E []))).bind λr=> (asBool r[0]?).bind λF=>(asLst 1 r[1]?).bind λG=>(asBool r[2]?).bind λH=>(asLst 1 r[3]?).bind λI=>(evF En n 12 [iI 2]).bind λs=> (asBool s[0]?).bind λJ=>(asLst 1 s[1]?).bind λK=>(asBool s[2]?).bind λM=>(asLst 1 s[3]?).bind λN=>(evF En n 13 (kQ F G H I (kQ J K M N []))).bind λt=> (asBool t[0]?).bind λO=>(asLst 1 t[1]?).bind λP=>(asBool t[2]?).bind λQ=>(asLst 1 t[3]?).bind λR=>(evF En n 12 [iI 1]).bind λu=> (asBool u[0]?).bind λS=>(asLst 1 u[1]?).bind λT=>(asBool u[2]?).bind λU=>(asLst 1 u[3]?).bind λV=>(evF En n 32 (kQ O P Q R (kQ S T U V []))).bind λW=> (asInt .i64 W[0]?).bind λx=>(evF En n 40 [iI 2]).bind λy=> (asBool y[0]?).bind λX=>(asLst 1 y[1]?).bind λY=>(evF En n 93 (kQ o p X Y [])).bind λq=> (asBool q[0]?).bind λc32=>(asLst 1 q[1]?).bind λv33=>(asBool q[2]?).bind λZ=>(asLst 1 q[3]?).bind λv35=>(asInt .i64 (q[4]?)).bind λn36=>
(cond (x>0) ((evF En n 40 [iI 1]).bind λz=> (asBool z[0]?).bind λc38=>(asLst 1 z[1]?).bind λv39=>(evF En n 95 (kQ o p c38 v39 [])).bind λA=> (asBool A[0]?).bind λc41=>(asLst 1 A[1]?).bind λv42=>some [.bool c41,iL v42]) (cond (x==0) ((evF En n 94 [.bool Z,iL v35]).bind λr43=> (asInt .i64 (r43[0]?)).bind λn44=>
(cond (n44 !=0) ((evF En n 40 [iI 1]).bind λB=> (asBool B[0]?).bind λc46=>(asLst 1 B[1]?).bind λv47=>(evF En n 95 (kQ o p c46 v47 [])).bind λC=> (asBool C[0]?).bind λc49=>(asLst 1 C[1]?).bind λv50=>some [.bool c49,iL v50]) (some [.bool o,iL p]))) (some [.bool o,iL p]))):=by kernel_rfl
theorem qsz:evF En (n+1) 25 [.bool b,iL a] =
(cond b ((evF En n 96 [iL a]).bind λp=> (asStr p[0]?).bind λo=>
(cond (((1+o.size):Int)>9223372036854775807) none (some [.str ({ data:=#[45] }++o)]))) ((evF En n 96 [iL a]).bind λq=> (asStr q[0]?).bind λr=>some [.str r])):=by kernel_rfl
theorem qt0:evF En (n+1) 26 [.bool b,iL a]=(evF En n 80 [.bool (!b),iL a]).bind λo=> (asBool o[0]?).bind λp=>(asLst 1 o[1]?).bind λq=>some [.bool p,iL q]:=by kernel_rfl
theorem qom:evF En (n+1) 32 (kQ b a d c (kQ f g j k []))=(evF En n 43 (kQ f g j k [])).bind λo=> (asBool o[0]?).bind λs=>(asLst 1 o[1]?).bind λt=>(evF En n 42 (kQ b a s t [])).bind λp=> (asBool p[0]?).bind λu=>(asLst 1 p[1]?).bind λv=>(evF En n 43 (kQ b a d c [])).bind λq=> (asBool q[0]?).bind λw=>(asLst 1 q[1]?).bind λx=>(evF En n 42 (kQ f g w x [])).bind λr=> (asBool r[0]?).bind λy=>(asLst 1 r[1]?).bind λz=>(evF En n 100 (kQ u v y z [])).bind λA=> (asInt .i64 A[0]?).bind λB=>some [iI B]:=by kernel_rfl
theorem qon:evF En (n+1) 37 (kQ b a d c (kQ f g j k []))=(evF En n 43 (kQ f g j k [])).bind λp=> (asBool p[0]?).bind λx=>(asLst 1 p[1]?).bind λy=>(evF En n 42 (kQ b a x y [])).bind λq=> (asBool q[0]?).bind λz=>(asLst 1 q[1]?).bind λA=>(evF En n 43 (kQ b a d c [])).bind λr=> (asBool r[0]?).bind λB=>(asLst 1 r[1]?).bind λC=>(evF En n 42 (kQ f g B C [])).bind λs=> (asBool s[0]?).bind λD=>(asLst 1 s[1]?).bind λE=>(evF En n 95 (kQ z A D E [])).bind λt=> (asBool t[0]?).bind λF=>(asLst 1 t[1]?).bind λG=>(evF En n 43 (kQ b a d c [])).bind λu=> (asBool u[0]?).bind λH=>(asLst 1 u[1]?).bind λI=>(evF En n 43 (kQ f g j k [])).bind λv=> (asBool v[0]?).bind λJ=>(asLst 1 v[1]?).bind λK=>(evF En n 42 (kQ H I J K [])).bind λw=> (asBool w[0]?).bind λM=>(asLst 1 w[1]?).bind λN=>(evF En n 41 (kQ F G M N [])).bind λo=> (asBool o[0]?).bind λO=>(asLst 1 o[1]?).bind λP=>(asBool o[2]?).bind λQ=>(asLst 1 o[3]?).bind λR=>some (kQ O P Q R []):=by kernel_rfl
theorem qoj:evF En (n+1) 38 (kQ b a d c [])=(evF En n 94 [.bool b,iL a]).bind λo=> (asInt .i64 o[0]?).bind λp=>some [iI p]:=by kernel_rfl
theorem qok:evF En (n+1) 39 (kQ b a d c [])=(evF En n 26 [.bool b,iL a]).bind λo=> (asBool o[0]?).bind λq=>(asLst 1 o[1]?).bind λr=>(evF En n 43 (kQ b a d c [])).bind λp=> (asBool p[0]?).bind λs=>(asLst 1 p[1]?).bind λt=>some (kQ q r s t []):=by kernel_rfl
theorem qt1:evF En (n+1) 40 [iI l] =
(cond (l≥0) ((evF En n 102 [.int .u64 (IntKind.wrap .u64 l)]).bind λq=> (asLst 1 q[0]?).bind λr=>(evF En n 80 [.bool false,iL r]).bind λo=> (asBool o[0]?).bind λs=>(asLst 1 o[1]?).bind λt=>some [.bool s,iL t]) ((evF En n 102 [.int .u64 (IntKind.wrap .u64 ((IntKind.wrap .u64 (w6 (0-(w6 (l+1)))))+1))]).bind λu=> (asLst 1 u[0]?).bind λv=>(evF En n 80 [.bool true,iL v]).bind λp=> (asBool p[0]?).bind λw=>(asLst 1 p[1]?).bind λx=>some [.bool w,iL x])):=by kernel_rfl
theorem qoi:evF En (n+1) 41 (kQ b a d c [])=(evF En n 79 (kQ b a d c [])).bind λo=> (asBool o[0]?).bind λp=>(asLst 1 o[1]?).bind λq=>(asBool o[2]?).bind λr=>(asLst 1 o[3]?).bind λs=>(asInt .i64 o[4]?).bind λt=>some (kQ p q r s []):=by kernel_rfl
theorem qt2:evF En (n+1) 42 (kQ b a d c [])=(evF En n 103 [iL a,iL c]).bind λp=> (asLst 1 p[0]?).bind λq=>(evF En n 80 [.bool (!(b==d)),iL q]).bind λo=> (asBool o[0]?).bind λr=>(asLst 1 o[1]?).bind λs=>some [.bool r,iL s]:=by kernel_rfl
theorem qog:evF En (n+1) 43 (kQ b a d c [])=(evF En n 94 [.bool d,iL c]).bind λp=> (asInt .i64 (p[0]?)).bind λq=>
(cond (q==0) ((evF En n 40 [iI 1]).bind λo=> (asBool o[0]?).bind λr=>(asLst 1 o[1]?).bind λs=>some [.bool r,iL s]) (some [.bool d,iL c])):=by kernel_rfl
theorem qbv:evF En (n+1) 77 [.str i] =
(cond ((i.size:Int)>0) ((q2p i 0).bind λo=>
(cond (o==45) ((bd 1 i.size).bind λz=> (evF En n 78 [.str (i.extract z i.size)]).bind λr=> (asLst 1 r[0]?).bind λp=>(asInt .i64 (r[1]?)).bind λA=>
(cond (A !=0) (some [.bool false,iL [],iI 10]) (cond (o==45) (cond ((p.length:Int)==0) (some [.bool false,iL [],iI 10]) ((evF En n 80 [.bool (o==45),iL p]).bind λs=> (asBool s[0]?).bind λB=>(asLst 1 s[1]?).bind λC=>some [.bool B,iL C,iI 0])) ((evF En n 80 [.bool (o==45),iL p]).bind λt=> (asBool t[0]?).bind λD=>(asLst 1 t[1]?).bind λE=>some [.bool D,iL E,iI 0])))) ((evF En n 78 [.str i]).bind λu=> (asLst 1 u[0]?).bind λq=>(asInt .i64 (u[1]?)).bind λF=>
(cond (F !=0) (some [.bool false,iL [],iI 10]) (cond (o==45) (cond ((q.length:Int)==0) (some [.bool false,iL [],iI 10]) ((evF En n 80 [.bool (o==45),iL q]).bind λv=> (asBool v[0]?).bind λG=>(asLst 1 v[1]?).bind λH=>some [.bool G,iL H,iI 0])) ((evF En n 80 [.bool (o==45),iL q]).bind λw=> (asBool w[0]?).bind λI=>(asLst 1 w[1]?).bind λJ=>some [.bool I,iL J,iI 0])))))) ((evF En n 78 [.str i]).bind λx=> (asLst 1 x[0]?).bind λK=>(asInt .i64 (x[1]?)).bind λM=>
(cond (M !=0) (some [.bool false,iL [],iI 10]) ((evF En n 80 [.bool false,iL K]).bind λy=> (asBool y[0]?).bind λN=>(asLst 1 y[1]?).bind λO=>some [.bool N,iL O,iI 0])))):=by kernel_rfl
theorem qfc:evF En (n+1) 79 (kQ b a d c [])=(evF En n 94 [.bool d,iL c]).bind λC=> (asInt .i64 (C[0]?)).bind λD=>
(cond (D==0) (some (kQ false [] false [] [iI 12])) ((evF En n 94 [.bool d,iL c]).bind λE=> (asInt .i64 (E[0]?)).bind λF=>
(cond (F<0) ((evF En n 26 [.bool b,iL a]).bind λs=> (asBool s[0]?).bind λG=>(asLst 1 s[1]?).bind λt=>(evF En n 26 [.bool d,iL c]).bind λu=> (asBool u[0]?).bind λH=>(asLst 1 u[1]?).bind λv=>(evF En n 135 [iL t,iL v]).bind λI=> (asLst 1 I[0]?).bind λJ=>(evF En n 80 [.bool false,iL J]).bind λw=> (asBool w[0]?).bind λx=>(asLst 1 w[1]?).bind λy=>(evF En n 136 (kQ G t x y [])).bind λo=> (asBool o[0]?).bind λK=>(asLst 1 o[1]?).bind λM=>(asBool o[2]?).bind λV=>(asLst 1 o[3]?).bind λW=>(asInt .i64 o[4]?).bind λX=>(evF En n 136 (kQ H v x y [])).bind λp=> (asBool p[0]?).bind λN=>(asLst 1 p[1]?).bind λO=>(asBool p[2]?).bind λY=>(asLst 1 p[3]?).bind λZ=>(asInt .i64 p[4]?).bind λn26=>some (kQ K M N O [iI 0])) ((evF En n 135 [iL a,iL c]).bind λP=> (asLst 1 P[0]?).bind λQ=>(evF En n 80 [.bool false,iL Q]).bind λz=> (asBool z[0]?).bind λA=>(asLst 1 z[1]?).bind λB=>(evF En n 136 (kQ b a A B [])).bind λq=> (asBool q[0]?).bind λR=>(asLst 1 q[1]?).bind λS=>(asBool q[2]?).bind λc35=>(asLst 1 q[3]?).bind λv36=>(asInt .i64 q[4]?).bind λn37=>(evF En n 136 (kQ d c A B [])).bind λr=> (asBool r[0]?).bind λT=>(asLst 1 r[1]?).bind λU=>(asBool r[2]?).bind λc41=>(asLst 1 r[3]?).bind λv42=>(asInt .i64 r[4]?).bind λn43=>some (kQ R S T U [iI 0]))))):=by kernel_rfl
theorem qt3:evF En (n+1) 80 [.bool b,iL a] =
(cond b (some [.bool (decide ((a.length:Int)>0)),iL a]) (some [.bool false,iL a])):=by kernel_rfl
theorem qod:evF En (n+1) 91 (kQ b a d c [])=(evF En n 43 (kQ b a d c [])).bind λp=> (asBool p[0]?).bind λq=>(asLst 1 p[1]?).bind λr=>(evF En n 93 (kQ b a q r [])).bind λo=> (asBool o[0]?).bind λs=>(asLst 1 o[1]?).bind λt=>(asBool o[2]?).bind λu=>(asLst 1 o[3]?).bind λv=>(asInt .i64 o[4]?).bind λw=>some [.bool s,iL t]:=by kernel_rfl
theorem qoo:evF En (n+1) 92 (kQ b a d c (kQ f g j k []))=(evF En n 39 (kQ f g j k [])).bind λo=> (asBool o[0]?).bind λq=>(asLst 1 o[1]?).bind λr=>(asBool o[2]?).bind λs=>(asLst 1 o[3]?).bind λt=>(evF En n 37 (kQ b a d c (kQ q r s t []))).bind λp=> (asBool p[0]?).bind λu=>(asLst 1 p[1]?).bind λv=>(asBool p[2]?).bind λw=>(asLst 1 p[3]?).bind λx=>some (kQ u v w x []):=by kernel_rfl
theorem qoc:evF En (n+1) 93 (kQ b a d c [])=(evF En n 136 (kQ b a d c [])).bind λq=> (asBool q[0]?).bind λs=>(asLst 1 q[1]?).bind λt=>(asBool q[2]?).bind λo=>(asLst 1 q[3]?).bind λp=>(asInt .i64 (q[4]?)).bind λr=>
(cond (r==0) ((evF En n 94 [.bool o,iL p]).bind λx=> (asInt .i64 (x[0]?)).bind λy=>
(cond (y !=0) ((evF En n 94 [.bool o,iL p]).bind λz=> (asInt .i64 z[0]?).bind λA=>(evF En n 94 [.bool d,iL c]).bind λB=> (asInt .i64 (B[0]?)).bind λC=>
(cond (A !=C) ((evF En n 40 [iI 1]).bind λu=> (asBool u[0]?).bind λD=>(asLst 1 u[1]?).bind λE=>(evF En n 162 (kQ s t D E [])).bind λv=> (asBool v[0]?).bind λF=>(asLst 1 v[1]?).bind λG=>(evF En n 95 (kQ o p d c [])).bind λw=> (asBool w[0]?).bind λH=>(asLst 1 w[1]?).bind λI=>some (kQ F G H I [iI r])) (some (kQ s t o p [iI r])))) (some (kQ s t o p [iI r])))) (some (kQ s t o p [iI r]))):=by kernel_rfl
theorem qt4:evF En (n+1) 94 [.bool b,iL a] =
(cond b (some [iI (-1)]) (cond ((a.length:Int)>0) (some [iI 1]) (some [iI 0]))):=by kernel_rfl
theorem qh0:evF En (n+1) 95 (kQ b a d c []) =
(cond (b==d) ((evF En n 163 [iL a,iL c]).bind λt=> (asLst 1 t[0]?).bind λu=>(evF En n 80 [.bool b,iL u]).bind λo=> (asBool o[0]?).bind λv=>(asLst 1 o[1]?).bind λw=>some [.bool v,iL w]) ((evF En n 164 [iL a,iL c]).bind λx=> (asInt .i64 (x[0]?)).bind λy=>
(cond (y≥0) ((evF En n 165 [iL a,iL c]).bind λp=> (asLst 1 p[0]?).bind λz=>(asInt .i64 p[1]?).bind λF=>(evF En n 80 [.bool b,iL z]).bind λq=> (asBool q[0]?).bind λA=>(asLst 1 q[1]?).bind λB=>some [.bool A,iL B]) ((evF En n 165 [iL c,iL a]).bind λr=> (asLst 1 r[0]?).bind λC=>(asInt .i64 r[1]?).bind λG=>(evF En n 80 [.bool d,iL C]).bind λs=> (asBool s[0]?).bind λD=>(asLst 1 s[1]?).bind λE=>some [.bool D,iL E])))):=by kernel_rfl
theorem qt5:evF En (n+1) 100 (kQ b a d c [])=(evF En n 162 (kQ b a d c [])).bind λo=> (asBool o[0]?).bind λp=>(asLst 1 o[1]?).bind λq=>(evF En n 94 [.bool p,iL q]).bind λr=> (asInt .i64 r[0]?).bind λs=>some [iI s]:=by kernel_rfl
theorem qt6:evF En (n+1) 136 (kQ b a d c [])=(evF En n 186 [iL a,iL c]).bind λo=> (asLst 1 o[0]?).bind λs=>(asLst 1 o[1]?).bind λt=>(asInt .i64 (o[2]?)).bind λp=>
(cond (p !=0) (some (kQ false [] false [] [iI p])) ((evF En n 80 [.bool (!(b==d)),iL s]).bind λq=> (asBool q[0]?).bind λu=>(asLst 1 q[1]?).bind λv=>(evF En n 80 [.bool b,iL t]).bind λr=> (asBool r[0]?).bind λw=>(asLst 1 r[1]?).bind λx=>some (kQ u v w x [iI 0]))):=by kernel_rfl
theorem qt7:evF En (n+1) 162 (kQ b a d c [])=(evF En n 26 [.bool d,iL c]).bind λo=> (asBool o[0]?).bind λq=>(asLst 1 o[1]?).bind λr=>(evF En n 95 (kQ b a q r [])).bind λp=> (asBool p[0]?).bind λs=>(asLst 1 p[1]?).bind λt=>some [.bool s,iL t]:=by kernel_rfl
end
section
variable (n m:Nat)
variable (v y:Bool)
variable (x e t a f j p u c o:List FV)
variable (r:Nat)
variable (s:ByteArray)
variable (i b w h k d l q g:Int)
def q2r.l5(n:Nat):=Lp En n 20 [1,1,1,0,1,0]
def q2r.l12(n:Nat):=Lp En n 20 [1,1,1,1,0,1,0]
theorem q2r.q1h:q2r.l5 n [] (m+1) [.list 8 a,iL f,.list 3 e,iI b,.list 3 t,iI w,.list 8 p,iI k,iI d] =
(cond (d<k) ((ix d p.length).bind λA=> (asStr (at' p A 0)).bind λz=> (asInt .i64 (at' p A 1)).bind λB=> (asInt .i64 (at' p A 2)).bind λH=> (asBool (at' p A 3)).bind λI=> (asInt .i64 (at' p A 4)).bind λJ=> (asLst 1 (at' p A 5)).bind λK=> (asInt .i64 (at' p A 6)).bind λM=> (asInt .i64 (at' p A 7)).bind λC=> (ix d f.length).bind λD=> (asBool (at' f D 0)).bind λE=>
(cond E ((asInt .i64 (at' [mgetD e (.agg [.str z,iI C]) (iI 0)] 0 0)).bind λF=>
(cond (q5g (ment e (.agg [.str z,iI C]) (iI 0) b) (mborn e (.agg [.str z,iI C]) b)) ((asInt .i64 (at' [mgetD t (.agg [.str z,iI B]) (iI 0)] 0 0)).bind λG=>
(cond (q5g (ment t (.agg [.str z,iI B]) (iI 0) w) (mborn t (.agg [.str z,iI B]) w)) (q2r.l5 n [] m [.list 8 a,iL f,.list 3 (msetB (ment e (.agg [.str z,iI C]) (iI 0) b) (mborn e (.agg [.str z,iI C]) b) (iI (w6 (F+1)))),iI (mclk e (.agg [.str z,iI C]) b),.list 3 (msetB (ment t (.agg [.str z,iI B]) (iI 0) w) (mborn t (.agg [.str z,iI B]) w) (iI (w6 (G+1)))),iI (mclk t (.agg [.str z,iI B]) w),.list 8 p,iI k,iI (w6 (d+1))]) none)) none)) (q2r.l5 n [] m [.list 8 a,iL f,.list 3 e,iI b,.list 3 t,iI w,.list 8 p,iI k,iI (w6 (d+1))]))) (q2r.l12 n [] n [iL f,.list 3 e,iI b,.list 3 t,iI w,.list 8 a,iI (a.length:Int),iI 0])):=by kernel_rfl
theorem q2r.q58:q2r.l12 n [] (m+1) [iL a,.list 3 x,iI i,.list 3 e,iI b,.list 8 j,iI h,iI k] =
(cond (k<h) ((ix k j.length).bind λz=> (asStr (at' j z 0)).bind λB=> (asInt .i64 (at' j z 1)).bind λI=> (asInt .i64 (at' j z 2)).bind λJ=> (asBool (at' j z 3)).bind λK=> (asInt .i64 (at' j z 4)).bind λM=> (asLst 1 (at' j z 5)).bind λN=> (asInt .i64 (at' j z 6)).bind λA=> (asInt .i64 (at' j z 7)).bind λC=> (ix k a.length).bind λD=> (asBool (at' a D 0)).bind λE=>
(cond E (cond (C>0) ((asInt .i64 (at' [mgetD x (.agg [.str B,iI C]) (iI 0)] 0 0)).bind λF=>
(cond (F>1) (some [.bool false]) (cond (A>0) ((asInt .i64 (at' [mgetD e (.agg [.str B,iI A]) (iI 0)] 0 0)).bind λG=>
(cond (G==0) (some [.bool false]) (q2r.l12 n [] m [iL a,.list 3 x,iI i,.list 3 e,iI b,.list 8 j,iI h,iI (w6 (k+1))]))) (q2r.l12 n [] m [iL a,.list 3 x,iI i,.list 3 e,iI b,.list 8 j,iI h,iI (w6 (k+1))])))) (cond (A>0) ((asInt .i64 (at' [mgetD e (.agg [.str B,iI A]) (iI 0)] 0 0)).bind λH=>
(cond (H==0) (some [.bool false]) (q2r.l12 n [] m [iL a,.list 3 x,iI i,.list 3 e,iI b,.list 8 j,iI h,iI (w6 (k+1))]))) (q2r.l12 n [] m [iL a,.list 3 x,iI i,.list 3 e,iI b,.list 8 j,iI h,iI (w6 (k+1))]))) (q2r.l12 n [] m [iL a,.list 3 x,iI i,.list 3 e,iI b,.list 8 j,iI h,iI (w6 (k+1))]))) (some [.bool true])):=by kernel_rfl
theorem qig:evF En (n+1) 20 [.list 8 a,iL f] =
(cond ((a.length:Int) !=(f.length:Int)) (some [.bool false]) (q2r.l5 n [] n [.list 8 a,iL f,.list 3 [],iI 0,.list 3 [],iI 0,.list 8 a,iI (a.length:Int),iI 0])):=by kernel_rfl
def q2d.l4(n:Nat):=Lp En n 21 [1,1,0,1,0]
def q2d.l10(n:Nat):=Lp En n 21 [1,1,0,1,0,0,1,0,0,1,1,1,0,1,0]
theorem q2d.q13:q2d.l4 n [] (m+1) [.list 8 a,iL f,iI b] =
(cond (b<(a.length:Int)) ((ix b f.length).bind λB=> (asBool (at' f B 0)).bind λC=>
(cond (!C) (q2d.l4 n [] m [.list 8 a,iL f,iI (w6 (b+1))]) ((ix b a.length).bind λz=> (asStr (at' a z 0)).bind λD=> (asInt .i64 (at' a z 1)).bind λE=> (asInt .i64 (at' a z 2)).bind λF=> (asBool (at' a z 3)).bind λG=> (asInt .i64 (at' a z 4)).bind λH=> (asLst 1 (at' a z 5)).bind λI=> (asInt .i64 (at' a z 6)).bind λA=> (asInt .i64 (at' a z 7)).bind λJ=> q2d.l10 n [m] n (kB D E F G H I A J [.list 8 a,iL f,iI b,.bool (decide (A<=0)),iI 0])))) (some [.bool true])):=by kernel_rfl
theorem q2d.q45:q2d.l10 n [r] (m+1) (kB s i b v h u d l [.list 8 c,iL o,iI q,.bool y,iI g]) =
(cond (g<(c.length:Int)) ((ix g o.length).bind λA=> (asBool (at' o A 0)).bind λB=>
(cond (!B) (q2d.l10 n [r] m (kB s i b v h u d l [.list 8 c,iL o,iI q,.bool y,iI (w6 (g+1))])) ((ix g c.length).bind λC=> (asStr (at' c C 0)).bind λD=>
(cond (!(D.toList==s.toList)) (q2d.l10 n [r] m (kB s i b v h u d l [.list 8 c,iL o,iI q,.bool y,iI (w6 (g+1))])) (cond y (cond (g !=q) (cond (l>0) ((ix g c.length).bind λE=> (asInt .i64 (at' c E 7)).bind λF=>
(cond (F==l) (some [.bool false]) (q2d.l10 n [r] m (kB s i b v h u d l [.list 8 c,iL o,iI q,.bool true,iI (w6 (g+1))])))) (q2d.l10 n [r] m (kB s i b v h u d l [.list 8 c,iL o,iI q,.bool true,iI (w6 (g+1))]))) (q2d.l10 n [r] m (kB s i b v h u d l [.list 8 c,iL o,iI q,.bool true,iI (w6 (g+1))]))) ((ix g c.length).bind λG=> (asInt .i64 (at' c G 1)).bind λz=>
(cond (g !=q) (cond (l>0) ((ix g c.length).bind λH=> (asInt .i64 (at' c H 7)).bind λI=>
(cond (I==l) (some [.bool false]) (q2d.l10 n [r] m (kB s i b v h u d l [.list 8 c,iL o,iI q,.bool (z==d),iI (w6 (g+1))])))) (q2d.l10 n [r] m (kB s i b v h u d l [.list 8 c,iL o,iI q,.bool (z==d),iI (w6 (g+1))]))) (q2d.l10 n [r] m (kB s i b v h u d l [.list 8 c,iL o,iI q,.bool (z==d),iI (w6 (g+1))]))))))))) (cond (!y) (some [.bool false]) (q2d.l4 n [] r [.list 8 c,iL o,iI (w6 (q+1))]))):=by kernel_rfl
theorem qih:evF En (n+1) 21 [.list 8 a,iL f] =
(cond ((a.length:Int) !=(f.length:Int)) (some [.bool false]) (q2d.l4 n [] n [.list 8 a,iL f,iI 0])):=by kernel_rfl
end
section
variable (n m:Nat)
variable (g s A C D x:Bool)
variable (l b t c y B z k:List FV)
variable (h r:ByteArray)
variable (E e a p f q i d u o w j v:Int)
def q38.l4(n:Nat):=Lp En n 61 [1,1,0,1,0]
def q38.l10(n:Nat):=Lp En n 61 [1,1,1,1,0,1,0]
theorem q38.q13:q38.l4 n [] (m+1) (kB h e a g f b i d [iL c,iI o]) =
(cond (o<(c.length:Int)) (cond (a<0) (some [.str { data:=#[] },iI 120]) ((ix o c.length).bind λG=> (asLst 1 (at' c G 0)).bind λH=>
(cond (a≥(H.length:Int)) (some [.str { data:=#[] },iI 120]) (q38.l4 n [] m (kB h e a g f b i d [iL c,iI (w6 (o+1))]))))) ((evF En n 12 [iI 0]).bind λF=> (asBool F[0]?).bind λI=>(asLst 1 F[1]?).bind λJ=>(asBool F[2]?).bind λK=>(asLst 1 F[3]?).bind λM=>q38.l10 n [] n (kB h e a g f b i d (kQ I J K M [iL c,iI 0])))):=by kernel_rfl
theorem q38.q45:q38.l10 n [] (m+1) (kB h e a g f b i d (kQ A y D z [iL k,iI j])) =
(cond (j<(k.length:Int)) ((ix j k.length).bind λV=> (asLst 1 (at' k V 0)).bind λQ=> (ix a Q.length).bind λW=> (asStr (at' Q W 0)).bind λX=> (evF En n 22 [.str X]).bind λF=> (asBool F[0]?).bind λY=>(asLst 1 F[1]?).bind λZ=>(asBool F[2]?).bind λc7=>(asLst 1 F[3]?).bind λv8=>(asInt .i64 (F[4]?)).bind λn9=>
(cond (n9 !=0) (some [.str { data:=#[] },iI 10]) ((evF En n 12 [iI f]).bind λG=> (asBool G[0]?).bind λc11=>(asLst 1 G[1]?).bind λv12=>(asBool G[2]?).bind λc13=>(asLst 1 G[3]?).bind λv14=>(evF En n 92 (kQ Y Z c7 v8 (kQ c11 v12 c13 v14 []))).bind λH=> (asBool H[0]?).bind λR=>(asLst 1 H[1]?).bind λS=>(asBool H[2]?).bind λT=>(asLst 1 (H[3]?)).bind λU=>
(cond g ((evF En n 39 (kQ R S T U [])).bind λI=> (asBool I[0]?).bind λc21=>(asLst 1 I[1]?).bind λv22=>(asBool I[2]?).bind λc23=>(asLst 1 I[3]?).bind λv24=>(ix j b.length).bind λi25=> (asInt .i64 (at' b i25 0)).bind λn26=> (evF En n 12 [iI n26]).bind λJ=> (asBool J[0]?).bind λc28=>(asLst 1 J[1]?).bind λv29=>(asBool J[2]?).bind λc30=>(asLst 1 J[3]?).bind λv31=>(evF En n 13 (kQ c21 v22 c23 v24 (kQ c28 v29 c30 v31 []))).bind λK=> (asBool K[0]?).bind λc33=>(asLst 1 K[1]?).bind λv34=>(asBool K[2]?).bind λc35=>(asLst 1 K[3]?).bind λv36=>(evF En n 37 (kQ A y D z (kQ c33 v34 c35 v36 []))).bind λM=> (asBool M[0]?).bind λc38=>(asLst 1 M[1]?).bind λv39=>(asBool M[2]?).bind λc40=>(asLst 1 M[3]?).bind λv41=>q38.l10 n [] m (kB h e a g f b i d (kQ c38 v39 c40 v41 [iL k,iI (w6 (j+1))]))) ((ix j b.length).bind λi42=> (asInt .i64 (at' b i42 0)).bind λn43=> (evF En n 12 [iI n43]).bind λN=> (asBool N[0]?).bind λc45=>(asLst 1 N[1]?).bind λv46=>(asBool N[2]?).bind λc47=>(asLst 1 N[3]?).bind λv48=>(evF En n 13 (kQ R S T U (kQ c45 v46 c47 v48 []))).bind λO=> (asBool O[0]?).bind λc50=>(asLst 1 O[1]?).bind λv51=>(asBool O[2]?).bind λc52=>(asLst 1 O[3]?).bind λv53=>(evF En n 37 (kQ A y D z (kQ c50 v51 c52 v53 []))).bind λP=> (asBool P[0]?).bind λc55=>(asLst 1 P[1]?).bind λv56=>(asBool P[2]?).bind λc57=>(asLst 1 P[3]?).bind λv58=>q38.l10 n [] m (kB h e a g f b i d (kQ c55 v56 c57 v58 [iL k,iI (w6 (j+1))]))))))) ((evF En n 14 (kQ A y D z [])).bind λr59=> (asStr r59[0]?).bind λu60=>some [.str u60,iI 0])):=by kernel_rfl
theorem qfr:evF En (n+1) 61 (kB h e a g f b i d [iL c]) =
(cond ((c.length:Int) !=(b.length:Int)) (some [.str { data:=#[] },iI 120]) (q38.l4 n [] n (kB h e a g f b i d [iL c,iI 0]))):=by kernel_rfl
theorem qpq:evF En (n+1) 64 [iI E,iI e,iI a] =
(cond (e<=E) (some [.bool (decide (E<=a))]) (some [.bool false])):=by kernel_rfl
def q7p.l6(n:Nat):=Lp En n 117 [1,1,1,1,0,1,0]
theorem q7p.q2n:q7p.l6 n [] (m+1) (kB h e a g f b i d (iL c::kQ C B x k [iI j,iI v])) =
(cond (v<j) ((ix v k.length).bind λO=> (asLst 1 (at' k O 0)).bind λN=> (ix a N.length).bind λP=> (asStr (at' N P 0)).bind λQ=> (evF En n 118 [.str Q]).bind λF=> (asLst 1 F[0]?).bind λR=>(asBool F[1]?).bind λS=>(asLst 1 F[2]?).bind λT=>(asBool F[3]?).bind λU=>(asInt .i64 (F[4]?)).bind λV=>
(cond (V !=0) (some [.str { data:=#[] },iI 10]) ((evF En n 111 [iI f]).bind λG=> (asLst 1 G[0]?).bind λW=>(asBool G[1]?).bind λX=>(asLst 1 G[2]?).bind λY=>(asBool G[3]?).bind λZ=>(evF En n 112 (iL R::kQ S T U W [.bool X,iL Y,.bool Z])).bind λH=> (asLst 1 H[0]?).bind λv16=>(asBool H[1]?).bind λc17=>(asLst 1 H[2]?).bind λv18=>(asBool H[3]?).bind λc19=>(ix v b.length).bind λi20=> (asInt .i64 (at' b i20 0)).bind λn21=> (evF En n 111 [iI n21]).bind λI=> (asLst 1 I[0]?).bind λv23=>(asBool I[1]?).bind λc24=>(asLst 1 I[2]?).bind λv25=>(asBool I[3]?).bind λc26=>(evF En n 154 (iL v16::kQ c17 v18 c19 v23 [.bool c24,iL v25,.bool c26])).bind λJ=> (asLst 1 J[0]?).bind λv28=>(asBool J[1]?).bind λc29=>(asLst 1 J[2]?).bind λv30=>(asBool J[3]?).bind λc31=>(evF En n 113 (iL c::kQ C B x v28 [.bool c29,iL v30,.bool c31])).bind λK=> (asLst 1 K[0]?).bind λv33=>(asBool K[1]?).bind λc34=>(asLst 1 K[2]?).bind λv35=>(asBool K[3]?).bind λc36=>q7p.l6 n [] m (kB h e a g f b i d (iL v33::kQ c34 v35 c36 k [iI j,iI (w6 (v+1))]))))) (cond g ((evF En n 169 [iL c,.bool C,iL B,.bool x]).bind λM=> (asLst 1 M[0]?).bind λv38=>(asBool M[1]?).bind λc39=>(asLst 1 M[2]?).bind λv40=>(asBool M[3]?).bind λc41=>(evF En n 167 [iL v38,.bool c39,iL v40,.bool c41]).bind λr42=> (asStr r42[0]?).bind λu43=>some [.str u43,iI 0]) ((evF En n 167 [iL c,.bool C,iL B,.bool x]).bind λr44=> (asStr r44[0]?).bind λu45=>some [.str u45,iI 0]))):=by kernel_rfl
theorem qje:evF En (n+1) 117 (kB h e a g f b i d [iL c]) =
(cond ((c.length:Int) !=(b.length:Int)) (some [.str { data:=#[] },iI 120]) ((evF En n 175 (iL c::kB h e a g f b i d [])).bind λF=> (asStr F[0]?).bind λG=>(asInt .i64 F[1]?).bind λH=>(asInt .i64 F[2]?).bind λI=>(asBool F[3]?).bind λJ=>(asInt .i64 F[4]?).bind λK=>(asLst 1 F[5]?).bind λM=>(asInt .i64 F[6]?).bind λN=>(asInt .i64 F[7]?).bind λO=>(asBool F[8]?).bind λP=>
(cond P (some [.str { data:=#[] },iI 120]) (q7p.l6 n [] n (kB G H I J K M N O (iL []::kQ false [] false c [iI (c.length:Int),iI 0])))))):=by kernel_rfl
theorem qpr:evF En (n+1) 174 (iL l::kB r a p s q t d u [])=(evF En n 64 [iI p,iI 0,iI (w6 ((l.length:Int)-1))]).bind λF=> (asBool F[0]?).bind λG=>some (kB r a p s q t d u [.bool (!G)]):=by kernel_rfl
theorem qps:evF En (n+1) 175 (iL l::kB r a p s q t d u [])=(evF En n 213 (iL l::kB r a p s q t d u [])).bind λF=> (asStr F[0]?).bind λG=>(asInt .i64 F[1]?).bind λH=>(asInt .i64 F[2]?).bind λI=>(asBool F[3]?).bind λJ=>(asInt .i64 F[4]?).bind λK=>(asLst 1 F[5]?).bind λM=>(asInt .i64 F[6]?).bind λN=>(asInt .i64 F[7]?).bind λO=>(asInt .i64 F[8]?).bind λP=>some (kB G H I J K M N O [.bool (decide (P≥0))]):=by kernel_rfl
def q8g.l2(n:Nat):=Lp En n 213 [1,0,1,0]
theorem q8g.qt:q8g.l2 n [] (m+1) (kB h e a g f b i d [iL c,iI o,iI w]) =
(cond (w<o) ((ix w c.length).bind λP=> (asLst 1 (at' c P 0)).bind λQ=> (evF En n 174 (iL Q::kB h e a g f b i d [])).bind λF=> (asStr F[0]?).bind λG=>(asInt .i64 F[1]?).bind λH=>(asInt .i64 F[2]?).bind λI=>(asBool F[3]?).bind λJ=>(asInt .i64 F[4]?).bind λK=>(asLst 1 F[5]?).bind λM=>(asInt .i64 F[6]?).bind λN=>(asInt .i64 F[7]?).bind λO=>(asBool F[8]?).bind λR=>
(cond R (some (kB G H I J K M N O [iI w])) (q8g.l2 n [] m (kB G H I J K M N O [iL c,iI o,iI (w6 (w+1))])))) (some (kB h e a g f b i d [iI (-1)]))):=by kernel_rfl
theorem qpt:evF En (n+1) 213 (iL l::kB r a p s q t d u [])=q8g.l2 n [] n (kB r a p s q t d u [iL l,iI (l.length:Int),iI 0]):=by kernel_rfl
end
end
end Rf
