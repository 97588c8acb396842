/- Texts of this work put together, their blanks and comments taken out: EnvC, EqLaw16, Hv16, Cs16. -/
import Derived.Test.YtcpnpoagpnkblaaGreatDoorUMZ
import Derived.Test.YtcpnpoagpnkblaaGreatDoorUMH
import Derived.KernelRfl
set_option linter.unusedVariables false
set_option linter.unusedSimpArgs false
section
/- The tables in which the laws on results are computed: Check, Orders, Linked are contracts. -/
namespace Rf
open Go
noncomputable def extC:XT:=lims EnB [15,17]++(lims EnA [18,19]++(lims En [54]++extN))
noncomputable def EnC:Env:=⟨Go.Proofs.Tryz.prog,fcT,tyT,fnT,λf=>lookN f extC⟩
theorem envOkC:q14 EnC:=⟨λ_ _ h=>qbj qbk h,λ_ _ h=>List.all_eq_true.1 qbl _ (q8c h),λ_ _ h=>qbm qbn h,Checked.mixed Go.Proofs.Tryz.checked⟩
theorem qdf(hX:q5l En):q5l EnC:=by
 intro f g i L L' hf hi hL;have hf:lookN f (lims EnB [15,17]++(lims EnA [18,19]++(lims En [54]++extN)))=some g:=hf;rcases qab hf with hf | hf
 ·rw[q7f hf]at hL;exact q7e envOkB (extB_ok hX) hi hL
 rcases qab hf with hf | hf
 ·rw[q7f hf]at hL;exact q7e envOkA (qdk hX) hi hL
 rcases qab hf with hf | hf
 ·rw[q7f hf]at hL;exact q7e envOk hX hi hL
 ·rw[q7f hf]at hL;exact q7e envOk hX hi hL
end Rf
end
section
/- Made by a program of this work: what each function comes to, one step of it; by the kernel. -/
set_option maxRecDepth 100000
set_option maxHeartbeats 4000000
namespace Rf
open Go
variable (n m:Nat)
variable (u p:Bool)
variable (i h c g d f e:List FV)
variable (l k:ByteArray)
variable (a b t j o q r s:Int)
theorem ql7:evF EnC (n+1) 3 [.int .u16 a,.int .u16 b,.int .u16 t,.bool u]=(evF EnC n 12 [iI 10]).bind λD=> (asBool D[0]?).bind λM=>(asLst 1 D[1]?).bind λN=>(asBool D[2]?).bind λO=>(asLst 1 (D[3]?)).bind λP=>
(cond u ((evF EnC n 12 [iI 9]).bind λE=> (asBool E[0]?).bind λQ=>(asLst 1 E[1]?).bind λR=>(asBool E[2]?).bind λS=>(asLst 1 E[3]?).bind λT=>(evF EnC n 12 [iI (IntKind.wrap .i64 ((IntKind.wrap .i64 ((Int.tmod (IntKind.wrap .i64 a) 500)+(Int.tmod (IntKind.wrap .i64 b) 500)))-(Int.tmod (IntKind.wrap .i64 a) 500)))]).bind λF=> (asBool F[0]?).bind λU=>(asLst 1 F[1]?).bind λV=>(asBool F[2]?).bind λW=>(asLst 1 F[3]?).bind λX=>(evF EnC n 13 (kQ Q R S T (kQ U V W X []))).bind λG=> (asBool G[0]?).bind λY=>(asLst 1 G[1]?).bind λZ=>(asBool G[2]?).bind λc18=>(asLst 1 G[3]?).bind λv19=>(evF EnC n 14 (kQ Y Z c18 v19 [])).bind λr20=> (asStr r20[0]?).bind λv=>(evF EnC n 14 (kQ Q R S T [])).bind λr22=> (asStr r22[0]?).bind λx=>(evF EnC n 14 (kQ Q R S T [])).bind λr24=> (asStr r24[0]?).bind λy=>(evF EnC n 12 [iI (Int.tmod (IntKind.wrap .i64 t) 1001)]).bind λH=> (asBool H[0]?).bind λc27=>(asLst 1 H[1]?).bind λv28=>(asBool H[2]?).bind λc29=>(asLst 1 H[3]?).bind λv30=>(evF EnC n 14 (kQ c27 v28 c29 v30 [])).bind λr31=> (asStr r31[0]?).bind λz=>
(cond ((Int.tmod (IntKind.wrap .i64 t) 1001)<(Int.tmod (IntKind.wrap .i64 a) 500)) ((evF EnC n 15 (k15 1 1 [] 0 1000 (qd 2 (.agg (kS { data:=#[] } 0 0 0 false 0 0 [])) [(0,(.agg (kS { data:=#[97] } 1 0 0 false 10 (Int.tmod (IntKind.wrap .i64 a) 500) []))),(1,(.agg (kS { data:=#[98] } 1 0 0 true 10 (IntKind.wrap .i64 ((Int.tmod (IntKind.wrap .i64 a) 500)+(Int.tmod (IntKind.wrap .i64 b) 500))) [])))]) [] [] (qd 2 (.str { data:=#[] }) [(0,(.str x)),(1,(.str y))]) (qd 1 (iL []) [(0,(iL (qd 0 (.str { data:=#[] }) [])))]) (qd 1 (iL []) [(0,(iL (qd 1 (.str { data:=#[] }) [(0,(.str z))])))]) v v true 0 [])).bind λr33=> (asInt .i64 r33[0]?).bind λn34=>some [.bool (n34==5)]) (cond ((Int.tmod (IntKind.wrap .i64 t) 1001)>(IntKind.wrap .i64 ((Int.tmod (IntKind.wrap .i64 a) 500)+(Int.tmod (IntKind.wrap .i64 b) 500)))) ((evF EnC n 15 (k15 1 1 [] 0 1000 (qd 2 (.agg (kS { data:=#[] } 0 0 0 false 0 0 [])) [(0,(.agg (kS { data:=#[97] } 1 0 0 false 10 (Int.tmod (IntKind.wrap .i64 a) 500) []))),(1,(.agg (kS { data:=#[98] } 1 0 0 true 10 (IntKind.wrap .i64 ((Int.tmod (IntKind.wrap .i64 a) 500)+(Int.tmod (IntKind.wrap .i64 b) 500))) [])))]) [] [] (qd 2 (.str { data:=#[] }) [(0,(.str x)),(1,(.str y))]) (qd 1 (iL []) [(0,(iL (qd 0 (.str { data:=#[] }) [])))]) (qd 1 (iL []) [(0,(iL (qd 1 (.str { data:=#[] }) [(0,(.str z))])))]) v v true 0 [])).bind λr35=> (asInt .i64 r35[0]?).bind λn36=>some [.bool (n36==5)]) (cond u (cond ((Int.tmod (IntKind.wrap .i64 t) 1001)>(Int.tmod (IntKind.wrap .i64 a) 500)) ((evF EnC n 15 (k15 1 1 [] 0 1000 (qd 2 (.agg (kS { data:=#[] } 0 0 0 false 0 0 [])) [(0,(.agg (kS { data:=#[97] } 1 0 0 false 10 (Int.tmod (IntKind.wrap .i64 a) 500) []))),(1,(.agg (kS { data:=#[98] } 1 0 0 true 10 (IntKind.wrap .i64 ((Int.tmod (IntKind.wrap .i64 a) 500)+(Int.tmod (IntKind.wrap .i64 b) 500))) [])))]) [] [] (qd 2 (.str { data:=#[] }) [(0,(.str x)),(1,(.str y))]) (qd 1 (iL []) [(0,(iL (qd 0 (.str { data:=#[] }) [])))]) (qd 1 (iL []) [(0,(iL (qd 1 (.str { data:=#[] }) [(0,(.str z))])))]) v v true 0 [])).bind λr37=> (asInt .i64 r37[0]?).bind λn38=>some [.bool (n38==5)]) (cond ((Int.tmod (IntKind.wrap .i64 t) 1001)<(IntKind.wrap .i64 ((Int.tmod (IntKind.wrap .i64 a) 500)+(Int.tmod (IntKind.wrap .i64 b) 500)))) ((evF EnC n 15 (k15 1 1 [] 0 1000 (qd 2 (.agg (kS { data:=#[] } 0 0 0 false 0 0 [])) [(0,(.agg (kS { data:=#[97] } 1 0 0 false 10 (Int.tmod (IntKind.wrap .i64 a) 500) []))),(1,(.agg (kS { data:=#[98] } 1 0 0 true 10 (IntKind.wrap .i64 ((Int.tmod (IntKind.wrap .i64 a) 500)+(Int.tmod (IntKind.wrap .i64 b) 500))) [])))]) [] [] (qd 2 (.str { data:=#[] }) [(0,(.str x)),(1,(.str y))]) (qd 1 (iL []) [(0,(iL (qd 0 (.str { data:=#[] }) [])))]) (qd 1 (iL []) [(0,(iL (qd 1 (.str { data:=#[] }) [(0,(.str z))])))]) v v true 0 [])).bind λr39=> (asInt .i64 r39[0]?).bind λn40=>some [.bool (n40==5)]) ((evF EnC n 15 (k15 1 1 [] 0 1000 (qd 2 (.agg (kS { data:=#[] } 0 0 0 false 0 0 [])) [(0,(.agg (kS { data:=#[97] } 1 0 0 false 10 (Int.tmod (IntKind.wrap .i64 a) 500) []))),(1,(.agg (kS { data:=#[98] } 1 0 0 true 10 (IntKind.wrap .i64 ((Int.tmod (IntKind.wrap .i64 a) 500)+(Int.tmod (IntKind.wrap .i64 b) 500))) [])))]) [] [] (qd 2 (.str { data:=#[] }) [(0,(.str x)),(1,(.str y))]) (qd 1 (iL []) [(0,(iL (qd 0 (.str { data:=#[] }) [])))]) (qd 1 (iL []) [(0,(iL (qd 1 (.str { data:=#[] }) [(0,(.str z))])))]) v v true 0 [])).bind λr41=> (asInt .i64 r41[0]?).bind λn42=>some [.bool (n42==0)]))) ((evF EnC n 15 (k15 1 1 [] 0 1000 (qd 2 (.agg (kS { data:=#[] } 0 0 0 false 0 0 [])) [(0,(.agg (kS { data:=#[97] } 1 0 0 false 10 (Int.tmod (IntKind.wrap .i64 a) 500) []))),(1,(.agg (kS { data:=#[98] } 1 0 0 true 10 (IntKind.wrap .i64 ((Int.tmod (IntKind.wrap .i64 a) 500)+(Int.tmod (IntKind.wrap .i64 b) 500))) [])))]) [] [] (qd 2 (.str { data:=#[] }) [(0,(.str x)),(1,(.str y))]) (qd 1 (iL []) [(0,(iL (qd 0 (.str { data:=#[] }) [])))]) (qd 1 (iL []) [(0,(iL (qd 1 (.str { data:=#[] }) [(0,(.str z))])))]) v v true 0 [])).bind λr43=> (asInt .i64 r43[0]?).bind λn44=>some [.bool (n44==0)]))))) ((evF EnC n 12 [iI (IntKind.wrap .i64 ((IntKind.wrap .i64 ((Int.tmod (IntKind.wrap .i64 a) 500)+(Int.tmod (IntKind.wrap .i64 b) 500)))-(Int.tmod (IntKind.wrap .i64 a) 500)))]).bind λI=> (asBool I[0]?).bind λc46=>(asLst 1 I[1]?).bind λv47=>(asBool I[2]?).bind λc48=>(asLst 1 I[3]?).bind λv49=>(evF EnC n 13 (kQ M N O P (kQ c46 v47 c48 v49 []))).bind λJ=> (asBool J[0]?).bind λc51=>(asLst 1 J[1]?).bind λv52=>(asBool J[2]?).bind λc53=>(asLst 1 J[3]?).bind λv54=>(evF EnC n 14 (kQ c51 v52 c53 v54 [])).bind λr55=> (asStr r55[0]?).bind λw=>(evF EnC n 14 (kQ M N O P [])).bind λr57=> (asStr r57[0]?).bind λA=>(evF EnC n 14 (kQ M N O P [])).bind λr59=> (asStr r59[0]?).bind λB=>(evF EnC n 12 [iI (Int.tmod (IntKind.wrap .i64 t) 1001)]).bind λK=> (asBool K[0]?).bind λc62=>(asLst 1 K[1]?).bind λv63=>(asBool K[2]?).bind λc64=>(asLst 1 K[3]?).bind λv65=>(evF EnC n 14 (kQ c62 v63 c64 v65 [])).bind λr66=> (asStr r66[0]?).bind λC=>
(cond ((Int.tmod (IntKind.wrap .i64 t) 1001)<(Int.tmod (IntKind.wrap .i64 a) 500)) ((evF EnC n 15 (k15 1 1 [] 0 1000 (qd 2 (.agg (kS { data:=#[] } 0 0 0 false 0 0 [])) [(0,(.agg (kS { data:=#[97] } 1 0 0 false 10 (Int.tmod (IntKind.wrap .i64 a) 500) []))),(1,(.agg (kS { data:=#[98] } 1 0 0 true 10 (IntKind.wrap .i64 ((Int.tmod (IntKind.wrap .i64 a) 500)+(Int.tmod (IntKind.wrap .i64 b) 500))) [])))]) [] [] (qd 2 (.str { data:=#[] }) [(0,(.str A)),(1,(.str B))]) (qd 1 (iL []) [(0,(iL (qd 0 (.str { data:=#[] }) [])))]) (qd 1 (iL []) [(0,(iL (qd 1 (.str { data:=#[] }) [(0,(.str C))])))]) w w true 0 [])).bind λr68=> (asInt .i64 r68[0]?).bind λn69=>some [.bool (n69==5)]) (cond ((Int.tmod (IntKind.wrap .i64 t) 1001)>(IntKind.wrap .i64 ((Int.tmod (IntKind.wrap .i64 a) 500)+(Int.tmod (IntKind.wrap .i64 b) 500)))) ((evF EnC n 15 (k15 1 1 [] 0 1000 (qd 2 (.agg (kS { data:=#[] } 0 0 0 false 0 0 [])) [(0,(.agg (kS { data:=#[97] } 1 0 0 false 10 (Int.tmod (IntKind.wrap .i64 a) 500) []))),(1,(.agg (kS { data:=#[98] } 1 0 0 true 10 (IntKind.wrap .i64 ((Int.tmod (IntKind.wrap .i64 a) 500)+(Int.tmod (IntKind.wrap .i64 b) 500))) [])))]) [] [] (qd 2 (.str { data:=#[] }) [(0,(.str A)),(1,(.str B))]) (qd 1 (iL []) [(0,(iL (qd 0 (.str { data:=#[] }) [])))]) (qd 1 (iL []) [(0,(iL (qd 1 (.str { data:=#[] }) [(0,(.str C))])))]) w w true 0 [])).bind λr70=> (asInt .i64 r70[0]?).bind λn71=>some [.bool (n71==5)]) (cond u (cond ((Int.tmod (IntKind.wrap .i64 t) 1001)>(Int.tmod (IntKind.wrap .i64 a) 500)) ((evF EnC n 15 (k15 1 1 [] 0 1000 (qd 2 (.agg (kS { data:=#[] } 0 0 0 false 0 0 [])) [(0,(.agg (kS { data:=#[97] } 1 0 0 false 10 (Int.tmod (IntKind.wrap .i64 a) 500) []))),(1,(.agg (kS { data:=#[98] } 1 0 0 true 10 (IntKind.wrap .i64 ((Int.tmod (IntKind.wrap .i64 a) 500)+(Int.tmod (IntKind.wrap .i64 b) 500))) [])))]) [] [] (qd 2 (.str { data:=#[] }) [(0,(.str A)),(1,(.str B))]) (qd 1 (iL []) [(0,(iL (qd 0 (.str { data:=#[] }) [])))]) (qd 1 (iL []) [(0,(iL (qd 1 (.str { data:=#[] }) [(0,(.str C))])))]) w w true 0 [])).bind λr72=> (asInt .i64 r72[0]?).bind λn73=>some [.bool (n73==5)]) (cond ((Int.tmod (IntKind.wrap .i64 t) 1001)<(IntKind.wrap .i64 ((Int.tmod (IntKind.wrap .i64 a) 500)+(Int.tmod (IntKind.wrap .i64 b) 500)))) ((evF EnC n 15 (k15 1 1 [] 0 1000 (qd 2 (.agg (kS { data:=#[] } 0 0 0 false 0 0 [])) [(0,(.agg (kS { data:=#[97] } 1 0 0 false 10 (Int.tmod (IntKind.wrap .i64 a) 500) []))),(1,(.agg (kS { data:=#[98] } 1 0 0 true 10 (IntKind.wrap .i64 ((Int.tmod (IntKind.wrap .i64 a) 500)+(Int.tmod (IntKind.wrap .i64 b) 500))) [])))]) [] [] (qd 2 (.str { data:=#[] }) [(0,(.str A)),(1,(.str B))]) (qd 1 (iL []) [(0,(iL (qd 0 (.str { data:=#[] }) [])))]) (qd 1 (iL []) [(0,(iL (qd 1 (.str { data:=#[] }) [(0,(.str C))])))]) w w true 0 [])).bind λr74=> (asInt .i64 r74[0]?).bind λn75=>some [.bool (n75==5)]) ((evF EnC n 15 (k15 1 1 [] 0 1000 (qd 2 (.agg (kS { data:=#[] } 0 0 0 false 0 0 [])) [(0,(.agg (kS { data:=#[97] } 1 0 0 false 10 (Int.tmod (IntKind.wrap .i64 a) 500) []))),(1,(.agg (kS { data:=#[98] } 1 0 0 true 10 (IntKind.wrap .i64 ((Int.tmod (IntKind.wrap .i64 a) 500)+(Int.tmod (IntKind.wrap .i64 b) 500))) [])))]) [] [] (qd 2 (.str { data:=#[] }) [(0,(.str A)),(1,(.str B))]) (qd 1 (iL []) [(0,(iL (qd 0 (.str { data:=#[] }) [])))]) (qd 1 (iL []) [(0,(iL (qd 1 (.str { data:=#[] }) [(0,(.str C))])))]) w w true 0 [])).bind λr76=> (asInt .i64 r76[0]?).bind λn77=>some [.bool (n77==0)]))) ((evF EnC n 15 (k15 1 1 [] 0 1000 (qd 2 (.agg (kS { data:=#[] } 0 0 0 false 0 0 [])) [(0,(.agg (kS { data:=#[97] } 1 0 0 false 10 (Int.tmod (IntKind.wrap .i64 a) 500) []))),(1,(.agg (kS { data:=#[98] } 1 0 0 true 10 (IntKind.wrap .i64 ((Int.tmod (IntKind.wrap .i64 a) 500)+(Int.tmod (IntKind.wrap .i64 b) 500))) [])))]) [] [] (qd 2 (.str { data:=#[] }) [(0,(.str A)),(1,(.str B))]) (qd 1 (iL []) [(0,(iL (qd 0 (.str { data:=#[] }) [])))]) (qd 1 (iL []) [(0,(iL (qd 1 (.str { data:=#[] }) [(0,(.str C))])))]) w w true 0 [])).bind λr78=> (asInt .i64 r78[0]?).bind λn79=>some [.bool (n79==0)])))))):=by kernel_rfl
theorem ql8:evF EnC (n+1) 4 (k15 a b i j o h c g d f e l k p q [.int .u8 r])=(evF EnC n 16 (k15 a b i j o h c g d f e l k p q [])).bind λv=> (asBool v[0]?).bind λw=>
(cond w (some [.bool true]) ((evF EnC n 17 (k15 a b i j o h c g d f e l k p q [])).bind λx=> (asInt .i64 (x[0]?)).bind λy=>
(cond (y !=0) (some [.bool true]) ((evF EnC n 15 (k15 a b i j o h c g d f e l k p q [])).bind λz=> (asInt .i64 (z[0]?)).bind λA=>
(cond (A !=0) (some [.bool false]) (cond ((Int.tmod r 4)==0) (cond (Nat.ble ((qd 0 (.bool false) []).length+g.length) 140737488355328) (cond (Nat.ble (((qd 0 (.bool false) [])++g).length+(qd 1 (.bool false) [(0,(.bool false))]).length) 140737488355328) ((evF EnC n 15 (k15 a b i j o h c (((qd 0 (.bool false) [])++g)++(qd 1 (.bool false) [(0,(.bool false))])) d f e l k p q [])).bind λB=> (asInt .i64 B[0]?).bind λC=>some [.bool (C==1)]) none) none) (cond ((Int.tmod r 4)==1) (cond (Nat.ble ((qd 0 (.str { data:=#[] }) []).length+d.length) 8796093022208) (cond (Nat.ble (((qd 0 (.str { data:=#[] }) [])++d).length+(qd 1 (.str { data:=#[] }) [(0,(.str { data:=#[48] }))]).length) 8796093022208) ((evF EnC n 15 (k15 a b i j o h c g (((qd 0 (.str { data:=#[] }) [])++d)++(qd 1 (.str { data:=#[] }) [(0,(.str { data:=#[48] }))])) f e l k p q [])).bind λD=> (asInt .i64 D[0]?).bind λE=>some [.bool (E==1)]) none) none) (cond ((Int.tmod r 4)==2) ((bd (IntKind.wrap .i64 ((f.length:Int)-1)) f.length).bind λF=> (evF EnC n 15 (k15 a b i j o h c g d (List.drop 0 (List.take F f)) e l k p q [])).bind λG=> (asInt .i64 G[0]?).bind λH=>some [.bool (H==1)]) ((bd 1 e.length).bind λI=> (evF EnC n 15 (k15 a b i j o h c g d f (List.drop I (List.take e.length e)) l k p q [])).bind λJ=> (asInt .i64 J[0]?).bind λK=>some [.bool (K==1)]))))))))):=by kernel_rfl
theorem ql9:evF EnC (n+1) 5 (k15 a b i j o h c g d f e l k p q [])=(evF EnC n 16 (k15 a b i j o h c g d f e l k p q [])).bind λv=> (asBool v[0]?).bind λw=>
(cond w (some [.bool true]) ((evF EnC n 18 (k7 a b i j o h c [])).bind λx=> (asBool x[0]?).bind λy=>(evF EnC n 19 (k7 a b i j o h c [])).bind λz=> (asBool z[0]?).bind λA=>
(cond (y==A) ((evF EnC n 20 [.list 8 c,iL g]).bind λB=> (asBool B[0]?).bind λC=>(evF EnC n 21 [.list 8 c,iL g]).bind λD=> (asBool D[0]?).bind λE=>
(cond (C==E) ((evF EnC n 15 (k15 a b i j o h c g d f e l k p q [])).bind λF=> (asInt .i64 F[0]?).bind λG=>(evF EnC n 17 (k15 a b i j o h c g d f e l k p q [])).bind λH=> (asInt .i64 H[0]?).bind λI=>some [.bool (G==I)]) (some [.bool false]))) (some [.bool false])))):=by kernel_rfl
noncomputable def qx.l3(n:Nat)(ms:List Nat)(m:Nat)(L:List FV):Res:=Lp EnC n 16 [1,1,0,1,0] ms m L
noncomputable def qx.l7(n:Nat)(ms:List Nat)(m:Nat)(L:List FV):Res:=Lp EnC n 16 [1,1,1,0,1,0] ms m L
noncomputable def qx.l11(n:Nat)(ms:List Nat)(m:Nat)(L:List FV):Res:=Lp EnC n 16 [1,1,1,1,0,1,0] ms m L
noncomputable def qx.l15(n:Nat)(ms:List Nat)(m:Nat)(L:List FV):Res:=Lp EnC n 16 [1,1,1,1,1,0,1,0] ms m L
theorem qx.qy:qx.l3 n [] (m+1) (k15 a b i j o h c g d f e l k p q [iI r,iI s]) =
(cond (s<(d.length:Int)) (cond (r<=256) ((ix s d.length).bind λw=> (asStr (at' d w 0)).bind λv=> qx.l3 n [] m (k15 a b i j o h c g d f e l k p q [iI (IntKind.wrap .i64 (r+(if 1048576<(v.size:Int)then 1048576 else(v.size:Int)))),iI (IntKind.wrap .i64 (s+1))])) (qx.l7 n [] n (k15 a b i j o h c g d f e l k p q [iI r,iI 0]))) (qx.l7 n [] n (k15 a b i j o h c g d f e l k p q [iI r,iI 0]))):=by kernel_rfl
theorem qx.q3f:qx.l7 n [] (m+1) (k15 a b i j o h c g d f e l k p q [iI r,iI s]) =
(cond (s<(f.length:Int)) (cond (r<=256) ((ix s f.length).bind λv=> (asLst 1 (at' f v 0)).bind λw=> (evF EnC n 54 [iL w]).bind λx=> (asInt .i64 x[0]?).bind λy=>qx.l7 n [] m (k15 a b i j o h c g d f e l k p q [iI (IntKind.wrap .i64 (r+y)),iI (IntKind.wrap .i64 (s+1))])) (qx.l11 n [] n (k15 a b i j o h c g d f e l k p q [iI r,iI 0]))) (qx.l11 n [] n (k15 a b i j o h c g d f e l k p q [iI r,iI 0]))):=by kernel_rfl
theorem qx.q4a:qx.l11 n [] (m+1) (k15 a b i j o h c g d f e l k p q [iI r,iI s]) =
(cond (s<(e.length:Int)) (cond (r<=256) ((ix s e.length).bind λv=> (asLst 1 (at' e v 0)).bind λw=> (evF EnC n 54 [iL w]).bind λx=> (asInt .i64 x[0]?).bind λy=>qx.l11 n [] m (k15 a b i j o h c g d f e l k p q [iI (IntKind.wrap .i64 (r+y)),iI (IntKind.wrap .i64 (s+1))])) (qx.l15 n [] n (k15 a b i j o h c g d f e l k p q [iI r,iI 0]))) (qx.l15 n [] n (k15 a b i j o h c g d f e l k p q [iI r,iI 0]))):=by kernel_rfl
theorem qx.q92:qx.l15 n [] (m+1) (k15 a b i j o h c g d f e l k p q [iI r,iI s]) =
(cond (s<(c.length:Int)) (cond (r<=256) ((ix s c.length).bind λw=> (asLst 1 (at' c w 5)).bind λv=> qx.l15 n [] m (k15 a b i j o h c g d f e l k p q [iI (IntKind.wrap .i64 (r+(if 1048576<(v.length:Int)then 1048576 else(v.length:Int)))),iI (IntKind.wrap .i64 (s+1))])) (some [.bool (decide (r>256))])) (some [.bool (decide (r>256))])):=by kernel_rfl
theorem qkk:evF EnC (n+1) 16 (k15 a b i j o h c g d f e l k p q [])=qx.l3 n [] n (k15 a b i j o h c g d f e l k p q [iI (IntKind.wrap .i64 ((IntKind.wrap .i64 ((IntKind.wrap .i64 ((IntKind.wrap .i64 ((IntKind.wrap .i64 ((IntKind.wrap .i64 ((IntKind.wrap .i64 ((IntKind.wrap .i64 ((h.length:Int)+(c.length:Int)))+(d.length:Int)))+(f.length:Int)))+(e.length:Int)))+(i.length:Int)))+(g.length:Int)))+(if 1048576<(l.size:Int)then 1048576 else(l.size:Int))))+(if 1048576<(k.size:Int)then 1048576 else(k.size:Int)))),iI 0]):=by kernel_rfl
end Rf
end
section
/- A case of law 16 out of its leaves, and heavy: what is not heavy is small. -/
set_option maxHeartbeats 4000000
namespace Rf
open Go
theorem blkV_of{cs:List FV}(h:All2 Fits blkShp cs):∃b:BlkV,mkEl true cs=b.fv/\b.qty.length<=140737488351232:=by
 obtain⟨x1,r1,rfl,h1,h⟩:=h.cons_inv;obtain⟨x2,r2,rfl,h2,h⟩:=h.cons_inv;obtain⟨x3,r3,rfl,h3,h⟩:=h.cons_inv;obtain⟨x4,r4,rfl,h4,h⟩:=h.cons_inv;obtain⟨x5,r5,rfl,h5,h⟩:=h.cons_inv;obtain⟨x6,r6,rfl,h6,h⟩:=h.cons_inv;obtain⟨x7,r7,rfl,h7,h⟩:=h.cons_inv;obtain⟨x8,r8,rfl,h8,h⟩:=h.cons_inv;obtain rfl:=h.q52;obtain⟨s1,rfl,_⟩:=h1.q4l;obtain⟨n2,rfl,_⟩:=h2.q1c;obtain⟨n3,rfl,_⟩:=h3.q1c;obtain⟨b4,rfl⟩:=h4.q3e;obtain⟨n5,rfl,_⟩:=h5.q1c;obtain⟨q,rfl,hq,_⟩:=h6.q7y iF (R:=λ_=>True) λcs hcs=>by
  obtain⟨y,r,rfl,hy,hr⟩:=hcs.cons_inv;obtain rfl:=hr.q52;obtain⟨z,rfl,_⟩:=hy.q1c;exact⟨z,rfl,trivial⟩
 obtain⟨n7,rfl,_⟩:=h7.q1c;obtain⟨n8,rfl,_⟩:=h8.q1c;exact⟨⟨s1,n2,n3,b4,n5,q,n7,n8⟩,rfl,by show q.length<=_;omega⟩
def stpShp:List Shp:=[.str,.int .i64,.int .i64,.int .i64,.bool,.int .i64,.int .i64]
theorem stpV_of{cs:List FV}(h:All2 Fits stpShp cs):∃s:StpV,mkEl true cs=s.fv/\True:=by
 obtain⟨x1,r1,rfl,h1,h⟩:=h.cons_inv;obtain⟨x2,r2,rfl,h2,h⟩:=h.cons_inv;obtain⟨x3,r3,rfl,h3,h⟩:=h.cons_inv;obtain⟨x4,r4,rfl,h4,h⟩:=h.cons_inv;obtain⟨x5,r5,rfl,h5,h⟩:=h.cons_inv;obtain⟨x6,r6,rfl,h6,h⟩:=h.cons_inv;obtain⟨x7,r7,rfl,h7,h⟩:=h.cons_inv;obtain rfl:=h.q52;obtain⟨s1,rfl,_⟩:=h1.q4l;obtain⟨n2,rfl,_⟩:=h2.q1c;obtain⟨n3,rfl,_⟩:=h3.q1c;obtain⟨n4,rfl,_⟩:=h4.q1c;obtain⟨b5,rfl⟩:=h5.q3e;obtain⟨n6,rfl,_⟩:=h6.q1c;obtain⟨n7,rfl,_⟩:=h7.q1c;exact⟨⟨s1,n2,n3,n4,b5,n6,n7⟩,rfl,trivial⟩
def lnShp:List Shp:=[.int .i64,.int .i64,.int .i64]
theorem lineV_of{cs:List FV}(h:All2 Fits lnShp cs):∃l:q17,mkEl true cs=l.fv/\True:=by
 obtain⟨x1,r1,rfl,h1,h⟩:=h.cons_inv;obtain⟨x2,r2,rfl,h2,h⟩:=h.cons_inv;obtain⟨x3,r3,rfl,h3,h⟩:=h.cons_inv;obtain rfl:=h.q52;obtain⟨n1,rfl,_⟩:=h1.q1c;obtain⟨n2,rfl,_⟩:=h2.q1c;obtain⟨n3,rfl,_⟩:=h3.q1c;exact⟨⟨n1,n2,n3⟩,rfl,trivial⟩
theorem rows_of{x:FV}(h:Fits (.lst false 24 [.lst false 16 [.str]]) x):∃P:List (List Txt),x=.list 1 (P.map rowF)/\P.length<=140737488351232/\∀r,r∈P->r.length<=140737488355328:=by
 obtain⟨P,rfl,hP,hr⟩:=h.q7y rowF (R:=λr=>r.length<=140737488355328) λcs hcs=>by
  obtain⟨y,r,rfl,hy,hr⟩:=hcs.cons_inv;obtain rfl:=hr.q52;obtain⟨t,rfl,ht⟩:=hy.qg0;exact⟨t,rfl,ht⟩
 exact⟨P,rfl,by omega,hr⟩
structure Sw(g:q1g)(ss:List StpV)(bs:List BlkV)(r:ResV):Prop where
 ssl:ss.length<=140737488351232
 bsl:bs.length<=140737488351232
 lsl:g.lines.length<=140737488351232
 acl:r.accept.length<=140737488351232
 xl:r.x.length<=140737488355328
 fl:r.f.length<=140737488351232
 pl:r.p.length<=140737488351232
 f:∀l,l∈r.f->l.length<=140737488355328
 p:∀l,l∈r.p->l.length<=140737488355328
abbrev cL(g:q1g)(ss:List StpV)(bs:List BlkV)(r:ResV)(rest:List FV):List FV:=gR g (.list 7 (ss.map StpV.fv)::.list 8 (bs.map BlkV.fv)::rL r rest)
theorem case_of {S:List Shp} {L:List FV} (h:All2 Fits (.int .i64::.int .i64::.lst true 24 [.int .i64,.int .i64,.int .i64]::.int .i64::.int .i64::.lst true 64 [.str,.int .i64,.int .i64,.int .i64,.bool,.int .i64,.int .i64] ::
  .lst true 88 [.str,.int .i64,.int .i64,.bool,.int .i64,.lst false 8 [.int .i64],.int .i64,.int .i64]::.lst false 1 [.bool]::.lst false 16 [.str]::.lst false 24 [.lst false 16 [.str]]::.lst false 24 [.lst false 16 [.str]]::.str::.str::.bool::.int .i64::S) L) :
  ∃g ss bs r rest,L=cL g ss bs r rest/\Sw g ss bs r/\All2 Fits S rest:=by
 obtain⟨x1,r1,rfl,h1,h⟩:=h.cons_inv;obtain⟨x2,r2,rfl,h2,h⟩:=h.cons_inv;obtain⟨x3,r3,rfl,h3,h⟩:=h.cons_inv;obtain⟨x4,r4,rfl,h4,h⟩:=h.cons_inv;obtain⟨x5,r5,rfl,h5,h⟩:=h.cons_inv;obtain⟨x6,r6,rfl,h6,h⟩:=h.cons_inv;obtain⟨x7,r7,rfl,h7,h⟩:=h.cons_inv;obtain⟨x8,r8,rfl,h8,h⟩:=h.cons_inv;obtain⟨x9,r9,rfl,h9,h⟩:=h.cons_inv;obtain⟨x10,r10,rfl,h10,h⟩:=h.cons_inv;obtain⟨x11,r11,rfl,h11,h⟩:=h.cons_inv;obtain⟨x12,r12,rfl,h12,h⟩:=h.cons_inv;obtain⟨x13,r13,rfl,h13,h⟩:=h.cons_inv;obtain⟨x14,r14,rfl,h14,h⟩:=h.cons_inv;obtain⟨x15,r15,rfl,h15,hz⟩:=h.cons_inv;clear h;obtain⟨zo,rfl,_⟩:=h1.q1c;obtain⟨ho,rfl,_⟩:=h2.q1c;obtain⟨ls,rfl,e3,_⟩:=h3.q7y q17.fv (R:=λ_=>True) λcs hcs=>lineV_of hcs;obtain⟨lo,rfl,_⟩:=h4.q1c;obtain⟨hi,rfl,_⟩:=h5.q1c;obtain⟨ss,rfl,e6,_⟩:=h6.q7y StpV.fv (R:=λ_=>True) λcs hcs=>stpV_of hcs;obtain⟨bs,rfl,e7,_⟩:=h7.q7y BlkV.fv (R:=λb=>b.qty.length<=140737488351232) λcs hcs=>blkV_of hcs;obtain⟨ac,rfl,e8,_⟩:=h8.q7y FV.bool (R:=λ_=>True) λcs hcs=>by
  obtain⟨y,r,rfl,hy,hr⟩:=hcs.cons_inv;obtain rfl:=hr.q52;obtain⟨b,rfl⟩:=hy.q3e;exact⟨b,rfl,trivial⟩
 obtain⟨x,rfl,e9⟩:=h9.qg0;obtain⟨f,rfl,e10,hf⟩:=rows_of h10;obtain⟨p,rfl,e11,hp⟩:=rows_of h11;obtain⟨w,rfl,_⟩:=h12.qcw;obtain⟨u,rfl,_⟩:=h13.qcw;obtain⟨op,rfl⟩:=h14.q3e;obtain⟨no,rfl,_⟩:=h15.q1c
 exact⟨⟨zo,ho,ls,lo,hi⟩,ss,bs,⟨ac,x,f,p,w,u,op,no⟩,r15,rfl,
  ⟨by omega,by omega,by show ls.length<=_;omega,by show ac.length<=_;omega,e9,e10,e11,hf,hp⟩,hz⟩
theorem qb5{F:Nat->Nat->Nat->Res}{len:Nat}{w:Nat->Nat}{fin:Nat->Res}
  (h1:∀m i v,i<len->v<=256->F (m+1) i v=F m (i+1) (v+w i))
  (h2:∀m i v,i<len->256<v->F (m+1) i v=fin v) (h3:∀m v,F (m+1) len v=fin v) (hw:∀i,i<len->w i<=2000000) :
  ∀(d i m v:Nat),i+d=len->d<m->v<=9000000000000000->∃u,F m i v=fin u/\v<=u/\u<=9000000000000000/\(u<=256->∀j,i<=j->j<len->w j<=256):=by
 intro d
 induction d with
 |zero =>
  intro i m v hi hm hv;obtain⟨m,rfl⟩:=qSx m (by omega);obtain rfl:i=len:=by omega
  exact⟨v,h3 m v,Nat.le_refl _,hv,λ_ j a b=>by omega⟩
 |succ d ih =>
  intro i m v hi hm hv;obtain⟨m,rfl⟩:=qSx m (by omega);by_cases hc:v<=256
  ·have:=hw i (by omega);obtain⟨u,u1,u2,u3,u4⟩:=ih (i+1) m (v+w i) (by omega) (by omega) (by omega);refine⟨u,by rw[h1 m i v (by omega) hc,u1],by omega,u3,λhu j a b=>?_⟩;by_cases hj:j=i
   ·subst hj;omega
   ·exact u4 hu j (by omega) b
  ·exact⟨v,h2 m i v (by omega) (by omega),Nat.le_refl _,hv,λhu=>by omega⟩
section
variable {g:q1g} {ss:List StpV} {bs:List BlkV} {r:ResV} {n:Nat}
theorem qb6{l:List Txt}(hl:l.length<=140737488355328):∃w:Nat,(∀n,evF EnC (n+1) 54 [rowF l]=some [iF (w:Int)])/\w<=1048576+256/\(w<=256->Few l):=by
 obtain⟨w,w1,w2,w3⟩:=long_ev (r:=l) (by omega);refine⟨w,λn=>?_,w2,w3⟩;have e:evF EnC (n+1) 54 [rowF l]=limO En 54 [rowF l]:=by kernel_rfl
 rw[e];exact q1h w1
theorem longs{P:List (List Txt)}(hp:∀l,l∈P->l.length<=140737488355328):∃w:Nat->Nat,(∀i (h:i<P.length) n,evF EnC (n+1) 54 [rowF P[i]]=some [iF (w i:Int)])/\(∀i,i<P.length->w i<=2000000)/\(∀i (h:i<P.length),w i<=256->Few P[i]):=by
 refine⟨λi=>if h:i<P.length then(qb6 (hp _ (List.getElem_mem h))).choose else 0,λi h n=>?_,λi h=>?_,λi h=>?_⟩
 ·simp only[dif_pos h];exact(qb6 (hp _ (List.getElem_mem h))).choose_spec.1 n
 ·simp only[dif_pos h];have:=(qb6 (hp _ (List.getElem_mem h))).choose_spec.2.1;omega
 ·simp only[dif_pos h];exact(qb6 (hp _ (List.getElem_mem h))).choose_spec.2.2
theorem l15_run(hS:Sw g ss bs r)(hn:9000000000000000<=n){v:Nat}(hv:v<=9000000000000000):∃u:Nat,qx.l15 n [] n (cL g ss bs r [iF (v:Int),iF 0])=some [.bool (decide ((u:Int)>256))]/\v<=u/\(u<=256->∀b,b∈bs->b.qty.length<=256):=by
 have hl:=hS.bsl;obtain⟨u,u1,u2,u3,u4⟩:=qb5 (F:=λm i v=>qx.l15 n [] m (cL g ss bs r [iF (v:Int),iF (i:Int)])) (len:=bs.length) (w:=λi=>min 1048576 (bs.getD i default).qty.length) (fin:=λv=>some [.bool (decide ((v:Int)>256))])
  (λm i v hi hv=>by
   show qx.l15 n [] (m+1) _=_;rw[qx.q92,List.length_map,decide_eq_true (by omega),cond_true,decide_eq_true (by omega),cond_true,qc hi];simp (disch:=omega) only[q2j hi,Option.bind_some,List.getElem?_cons_zero,List.getElem?_cons_succ,q9];rw[List.length_map,show(1048576:Int)=((1048576:Nat):Int) from rfl,q7z,qi (by omega),<- Int.natCast_add,qm (by omega) (by omega)]
   simp only[List.getD_eq_getElem?_getD,List.getElem?_eq_getElem hi,Option.getD_some])
  (λm i v hi hv=>by
   show qx.l15 n [] (m+1) _=_
   rw[qx.q92,List.length_map,decide_eq_true (by omega),cond_true,decide_eq_false (by omega),cond_false])
  (λm v=>by
   show qx.l15 n [] (m+1) _=_
   rw[qx.q92,List.length_map,decide_eq_false (by omega),cond_false])
  (λi _=>by omega) bs.length 0 n v (by omega) (by omega) hv
 refine⟨u,u1,u2,λhu b hb=>?_⟩;obtain⟨i,hi,rfl⟩:=List.mem_iff_getElem.1 hb;have:=u4 hu i (by omega) hi;simp only[List.getD_eq_getElem?_getD,List.getElem?_eq_getElem hi,Option.getD_some]at this;omega
theorem l11_run(hS:Sw g ss bs r)(hn:9000000000000000<=n){v:Nat}(hv:v<=9000000000000000):∃u:Nat,qx.l11 n [] n (cL g ss bs r [iF (v:Int),iF 0])=qx.l15 n [] n (cL g ss bs r [iF (u:Int),iF 0])/\v<=u/\u<=9000000000000000/\(u<=256->∀l,l∈r.p->Few l):=by
 have hl:=hS.pl;obtain⟨w,w1,w2,w3⟩:=longs hS.p;obtain⟨n,rfl⟩:=qSx n (by omega);obtain⟨u,u1,u2,u3,u4⟩:=qb5 (F:=λm i v=>qx.l11 (n+1) [] m (cL g ss bs r [iF (v:Int),iF (i:Int)])) (len:=r.p.length) (w:=w) (fin:=λv=>qx.l15 (n+1) [] (n+1) (cL g ss bs r [iF (v:Int),iF 0]))
  (λm i v hi hv=>by
   have:=w2 i hi;show qx.l11 (n+1) [] (m+1) _=_;rw[qx.q4a,List.length_map,decide_eq_true (by omega),cond_true,decide_eq_true (by omega),cond_true,qc hi,Option.bind_some,q36 hi,q9,Option.bind_some,w1 i hi n];simp (disch:=omega) only[Option.bind_some,List.getElem?_cons_zero,qb]
   rw[qi (by omega),<- Int.natCast_add,qm (by omega) (by omega)])
  (λm i v hi hv=>by
   show qx.l11 (n+1) [] (m+1) _=_
   rw[qx.q4a,List.length_map,decide_eq_true (by omega),cond_true,decide_eq_false (by omega),cond_false])
  (λm v=>by
   show qx.l11 (n+1) [] (m+1) _=_
   rw[qx.q4a,List.length_map,decide_eq_false (by omega),cond_false])
  w2 r.p.length 0 (n+1) v (by omega) (by omega) hv
 refine⟨u,u1,u2,u3,λhu l hl=>?_⟩;obtain⟨i,hi,rfl⟩:=List.mem_iff_getElem.1 hl;exact w3 i hi (u4 hu i (by omega) hi)
theorem l7_run(hS:Sw g ss bs r)(hn:9000000000000000<=n){v:Nat}(hv:v<=9000000000000000):∃u:Nat,qx.l7 n [] n (cL g ss bs r [iF (v:Int),iF 0])=qx.l11 n [] n (cL g ss bs r [iF (u:Int),iF 0])/\v<=u/\u<=9000000000000000/\(u<=256->∀l,l∈r.f->Few l):=by
 have hl:=hS.fl;obtain⟨w,w1,w2,w3⟩:=longs hS.f;obtain⟨n,rfl⟩:=qSx n (by omega);obtain⟨u,u1,u2,u3,u4⟩:=qb5 (F:=λm i v=>qx.l7 (n+1) [] m (cL g ss bs r [iF (v:Int),iF (i:Int)])) (len:=r.f.length) (w:=w) (fin:=λv=>qx.l11 (n+1) [] (n+1) (cL g ss bs r [iF (v:Int),iF 0]))
  (λm i v hi hv=>by
   have:=w2 i hi;show qx.l7 (n+1) [] (m+1) _=_;rw[qx.q3f,List.length_map,decide_eq_true (by omega),cond_true,decide_eq_true (by omega),cond_true,qc hi,Option.bind_some,q36 hi,q9,Option.bind_some,w1 i hi n];simp (disch:=omega) only[Option.bind_some,List.getElem?_cons_zero,qb]
   rw[qi (by omega),<- Int.natCast_add,qm (by omega) (by omega)])
  (λm i v hi hv=>by
   show qx.l7 (n+1) [] (m+1) _=_
   rw[qx.q3f,List.length_map,decide_eq_true (by omega),cond_true,decide_eq_false (by omega),cond_false])
  (λm v=>by
   show qx.l7 (n+1) [] (m+1) _=_
   rw[qx.q3f,List.length_map,decide_eq_false (by omega),cond_false])
  w2 r.f.length 0 (n+1) v (by omega) (by omega) hv
 refine⟨u,u1,u2,u3,λhu l hl=>?_⟩;obtain⟨i,hi,rfl⟩:=List.mem_iff_getElem.1 hl;exact w3 i hi (u4 hu i (by omega) hi)
theorem l3_run(hS:Sw g ss bs r)(hn:9000000000000000<=n){v:Nat}(hv:v<=9000000000000000):∃u:Nat,qx.l3 n [] n (cL g ss bs r [iF (v:Int),iF 0])=qx.l7 n [] n (cL g ss bs r [iF (u:Int),iF 0])/\v<=u/\u<=9000000000000000/\(u<=256->∀t,t∈r.x->t.length<=256):=by
 have hl:=hS.xl;obtain⟨u,u1,u2,u3,u4⟩:=qb5 (F:=λm i v=>qx.l3 n [] m (cL g ss bs r [iF (v:Int),iF (i:Int)])) (len:=r.x.length) (w:=λi=>min 1048576 (r.x.getD i []).length) (fin:=λv=>qx.l7 n [] n (cL g ss bs r [iF (v:Int),iF 0]))
  (λm i v hi hv=>by
   show qx.l3 n [] (m+1) _=_;rw[qx.qy,List.length_map,decide_eq_true (by omega),cond_true,decide_eq_true (by omega),cond_true,qc hi,Option.bind_some,sF_at hi];simp (disch:=omega) only[Option.bind_some,qn];rw[q1i,show(1048576:Int)=((1048576:Nat):Int) from rfl,q7z,qi (by omega),<- Int.natCast_add,qm (by omega) (by omega)]
   simp only[List.getD_eq_getElem?_getD,List.getElem?_eq_getElem hi,Option.getD_some])
  (λm i v hi hv=>by
   show qx.l3 n [] (m+1) _=_
   rw[qx.qy,List.length_map,decide_eq_true (by omega),cond_true,decide_eq_false (by omega),cond_false])
  (λm v=>by
   show qx.l3 n [] (m+1) _=_
   rw[qx.qy,List.length_map,decide_eq_false (by omega),cond_false])
  (λi _=>by omega) r.x.length 0 n v (by omega) (by omega) hv
 refine⟨u,u1,u2,u3,λhu b hb=>?_⟩;obtain⟨i,hi,rfl⟩:=List.mem_iff_getElem.1 hb;have:=u4 hu i (by omega) hi;simp only[List.getD_eq_getElem?_getD,List.getElem?_eq_getElem hi,Option.getD_some]at this;omega
theorem qg1(hS:Sw g ss bs r)(hn:9000000000000000<=n):∃b,evF EnC (n+1) 16 (cL g ss bs r [])=some [.bool b]/\(b=false->Sm g ss bs r):=by
 obtain⟨a1,a2,a3,a4,a5,a6,a7,_,_⟩:=hS;have hS:Sw g ss bs r:=⟨a1,a2,a3,a4,a5,a6,a7,by assumption,by assumption⟩;have b1:=Nat.min_le_left 1048576 r.qo.length;have b2:=Nat.min_le_left 1048576 r.upper.length;obtain⟨u1,e1,m1,k1,s1⟩:=l3_run hS hn (v:=ss.length+bs.length+r.x.length+r.f.length+r.p.length+g.lines.length+r.accept.length+min 1048576 r.qo.length+min 1048576 r.upper.length) (by omega);obtain⟨u2,e2,m2,k2,s2⟩:=l7_run hS hn (v:=u1) k1;obtain⟨u3,e3,m3,k3,s3⟩:=l11_run hS hn (v:=u2) k2;obtain⟨u4,e4,m4,s4⟩:=l15_run hS hn (v:=u3) k3;refine⟨decide ((u4:Int)>256),?_,λhb=>?_⟩
 ·rw[qkk];simp only[List.length_map];rw[q1i,q1i,show(1048576:Int)=((1048576:Nat):Int) from rfl,q7z,q7z]
  rw[qm (x:=(ss.length:Int)+(bs.length:Int)) (by omega) (by omega),qm (x:=(ss.length:Int)+(bs.length:Int)+(r.x.length:Int)) (by omega) (by omega),
   qm (x:=(ss.length:Int)+(bs.length:Int)+(r.x.length:Int)+(r.f.length:Int)) (by omega) (by omega),qm (x:=(ss.length:Int)+(bs.length:Int)+(r.x.length:Int)+(r.f.length:Int)+(r.p.length:Int)) (by omega) (by omega),
   qm (x:=(ss.length:Int)+(bs.length:Int)+(r.x.length:Int)+(r.f.length:Int)+(r.p.length:Int)+(g.lines.length:Int)) (by omega) (by omega),
   qm (x:=(ss.length:Int)+(bs.length:Int)+(r.x.length:Int)+(r.f.length:Int)+(r.p.length:Int)+(g.lines.length:Int)+(r.accept.length:Int)) (by omega) (by omega),
   qm (x:=(ss.length:Int)+(bs.length:Int)+(r.x.length:Int)+(r.f.length:Int)+(r.p.length:Int)+(g.lines.length:Int)+(r.accept.length:Int)+((min 1048576 r.qo.length:Nat):Int)) (by omega) (by omega),
   qm (x:=(ss.length:Int)+(bs.length:Int)+(r.x.length:Int)+(r.f.length:Int)+(r.p.length:Int)+(g.lines.length:Int)+(r.accept.length:Int)+((min 1048576 r.qo.length:Nat):Int)+((min 1048576 r.upper.length:Nat):Int)) (by omega) (by omega)]
  simp only[<- Int.natCast_add];exact e1.trans (e2.trans (e3.trans e4))
 ·have hu:u4<=256:=by
   have:=of_decide_eq_false hb;omega
  exact⟨by omega,by omega,by omega,by omega,by omega,by omega,by omega,s1 (by omega),s2 (by omega),s3 (by omega),by omega,by omega,s4 hu⟩
end
end Rf
end
section
/- ResultChecks, ResultShapes: what Check, Orders, Linked answer is one; a list too short or too long. -/
set_option maxHeartbeats 4000000
namespace Rf
open Go
theorem bindE{o:Option (List FV)}{v:List FV}{K:List FV->Option (List FV)}(h:o=some v):o.bind K=K v:=by rw[h];rfl
section
variable {g:q1g} {ss:List StpV} {bs:List BlkV} {r:ResV} {n:Nat}
theorem q8s(h:Sm g ss bs r):evF EnC (n+1) 15 (cL g ss bs r [])=some [iF (chkV g ss bs r)]:=by
 have e:evF EnC (n+1) 15 (cL g ss bs r [])=limO EnB 15 (cL g ss bs r []):=by kernel_rfl
 rw[e]
 exact q1h ⟨2,λn hn=>by
  obtain⟨k,rfl⟩:∃k,n=k+2:=⟨n-2,by omega⟩
  exact check_run h⟩
theorem qjm(h:Sm g ss bs r):evF EnC (n+1) 17 (cL g ss bs r [])=some [iF (chkV g ss bs r)]:=by
 have e:evF EnC (n+1) 17 (cL g ss bs r [])=limO EnB 17 (cL g ss bs r []):=by kernel_rfl
 rw[e]
 exact q1h ⟨101,λn hn=>by
  obtain⟨k,rfl⟩:∃k,n=k+101:=⟨n-101,by omega⟩
  exact qml h⟩
theorem c_orders(h:Sm g ss bs r):evF EnC (n+1) 18 (gR g [.list 7 (ss.map StpV.fv),.list 8 (bs.map BlkV.fv)])=some [.bool (q2b g ss bs)]:=by
 have e:evF EnC (n+1) 18 (gR g [.list 7 (ss.map StpV.fv),.list 8 (bs.map BlkV.fv)])=limO EnA 18 (gR g [.list 7 (ss.map StpV.fv),.list 8 (bs.map BlkV.fv)]):=by kernel_rfl
 rw[e];exact q1h ⟨70000,λn hn=>qfx h hn⟩
theorem c_worders(h:Sm g ss bs r):evF EnC (n+1) 19 (gR g [.list 7 (ss.map StpV.fv),.list 8 (bs.map BlkV.fv)])=some [.bool (q2b g ss bs)]:=by
 have e:evF EnC (n+1) 19 (gR g [.list 7 (ss.map StpV.fv),.list 8 (bs.map BlkV.fv)])=limO EnA 19 (gR g [.list 7 (ss.map StpV.fv),.list 8 (bs.map BlkV.fv)]):=by kernel_rfl
 rw[e];exact q1h ⟨70000,λn hn=>qfy h hn⟩
theorem c_linked(h:Sm g ss bs r):evF EnC (n+1) 20 [.list 8 (bs.map BlkV.fv),.list 1 (r.accept.map .bool)]=some [.bool (q2y bs r.accept)]:=by
 have e:evF EnC (n+1) 20 [.list 8 (bs.map BlkV.fv),.list 1 (r.accept.map .bool)]=limO En 20 [.list 8 (bs.map BlkV.fv),.list 1 (r.accept.map .bool)]:=by kernel_rfl
 rw[e];have:=h.bsl;exact q1h (qgr (by omega))
theorem c_wlinked(h:Sm g ss bs r):evF EnC (n+1) 21 [.list 8 (bs.map BlkV.fv),.list 1 (r.accept.map .bool)]=some [.bool (q2y bs r.accept)]:=by
 have e:evF EnC (n+1) 21 [.list 8 (bs.map BlkV.fv),.list 1 (r.accept.map .bool)]=limO En 21 [.list 8 (bs.map BlkV.fv),.list 1 (r.accept.map .bool)]:=by kernel_rfl
 rw[e];have:=h.bsl;exact q1h (qgs (by omega))
theorem qqr(hS:Sw g ss bs r)(hn:9000000000000000<=n):evF EnC (n+2) 5 (cL g ss bs r [])=some [.bool true]:=by
 obtain⟨b,h1,h2⟩:=qg1 hS hn;rw[ql9,h1];simp (disch:=omega) only[Option.bind_some,List.getElem?_cons_zero,qa];cases b with
 |true=>rfl
 |false =>
  have h:=h2 rfl;rw[cond_false,c_orders h];simp (disch:=omega) only[Option.bind_some,List.getElem?_cons_zero,qa];rw[c_worders h];simp (disch:=omega) only[Option.bind_some,List.getElem?_cons_zero,qa];rw[beq_self_eq_true,cond_true,c_linked h];simp (disch:=omega) only[Option.bind_some,List.getElem?_cons_zero,qa];rw[c_wlinked h];simp (disch:=omega) only[Option.bind_some,List.getElem?_cons_zero,qa];rw[beq_self_eq_true,cond_true,q8s h];simp (disch:=omega) only[Option.bind_some,List.getElem?_cons_zero,qb];rw[qjm h];simp (disch:=omega) only[Option.bind_some,List.getElem?_cons_zero,qb];rw[beq_self_eq_true]
theorem chk_shape(h:chkV g ss bs r=0):q7w g ss bs r:=by
 by_cases hs:q3y g ss bs r=true
 ·exact q9z.1 hs
 ·unfold chkV at h;rw[if_pos (Bool.eq_false_iff.2 hs)]at h;cases h
theorem qcp(h:¬ q7w g ss bs r):chkV g ss bs r=1:=by
 unfold chkV;rw[if_pos (Bool.eq_false_iff.2 (λq=>h (q9z.1 q)))]
theorem qqs{x:Int}(hS:Sw g ss bs r)(hn:9000000000000000<=n):evF EnC (n+2) 4 (cL g ss bs r [.int .u8 x])=some [.bool true]:=by
 obtain⟨b,h1,h2⟩:=qg1 hS hn;rw[ql8,h1];simp (disch:=omega) only[Option.bind_some,List.getElem?_cons_zero,qa];cases b with
 |true=>rfl
 |false =>
  have h:=h2 rfl;rw[cond_false,qjm h];simp (disch:=omega) only[Option.bind_some,List.getElem?_cons_zero,qb];by_cases h0:chkV g ss bs r=0
  ·rw[h0,show((0:Int) !=0)=false from rfl,cond_false,q8s h];simp (disch:=omega) only[Option.bind_some,List.getElem?_cons_zero,qb];rw[h0,show((0:Int) !=0)=false from rfl,cond_false];have S:=chk_shape h0;obtain⟨z1,z2,z3,z4,z5,z6,z7,z8,z9⟩:=q34 (q35 S.ord);obtain⟨o1,o2⟩:=q56 S.ord;have lac:=S.ac;have lx:=S.x;have lf:=S.f;have lp:=S.p;by_cases q0:Int.tmod x 4=0
   ·rw[q0,show((0:Int)==0)=true from rfl,cond_true];have R:Sm g ss bs { r with accept:=r.accept++[false] }:={ h with acl:=by show(r.accept++[false]).length<=256;rw[List.length_append,List.length_singleton];omega };have hb1:Nat.ble ((qd 0 (.bool false) []).length+(r.accept.map FV.bool).length) 140737488355328=true:=Nat.ble_eq_true_of_le (by rw[List.length_map];show 0+_<=_;omega);have hb2:Nat.ble (((qd 0 (.bool false) [])++(r.accept.map FV.bool)).length+(qd 1 (.bool false) [(0,(.bool false))]).length) 140737488355328=true:=Nat.ble_eq_true_of_le (by rw[List.length_append,List.length_map];show 0+_+1<=_;omega);rw[hb1,cond_true,hb2,cond_true];have e:((qd 0 (.bool false) [])++(r.accept.map FV.bool))++(qd 1 (.bool false) [(0,(.bool false))])=(r.accept++[false]).map FV.bool:=by rw[List.map_append];rfl
    rw[e];have:=q8s (n:=n) R;refine(bindE this).trans ?_;rw[qcp (λq=>by have:=q.ac;simp only[List.length_append,List.length_singleton]at this;omega)];rfl
   ·rw[show(Int.tmod x 4==0)=false by simp[q0],cond_false];by_cases q1:Int.tmod x 4=1
    ·rw[q1,show((1:Int)==1)=true from rfl,cond_true]
     have R:Sm g ss bs { r with x:=r.x++[[48]] }:={ h with
       xl:=by show(r.x++[[48]]).length<=256;rw[List.length_append,List.length_singleton];omega
       x:=λt ht=>by
         rcases List.mem_append.1 ht with ht | ht
         · exact h.x t ht
         · rw[List.mem_singleton.1 ht];decide }
     have hb1:Nat.ble ((qd 0 (.str { data:=#[] }) []).length+(r.x.map sF).length) 8796093022208=true:=Nat.ble_eq_true_of_le (by rw[List.length_map];show 0+_<=_;omega);have hb2:Nat.ble (((qd 0 (.str { data:=#[] }) [])++(r.x.map sF)).length+(qd 1 (.str { data:=#[] }) [(0,(.str { data:=#[48] }))]).length) 8796093022208=true:=Nat.ble_eq_true_of_le (by rw[List.length_append,List.length_map];show 0+_+1<=_;omega);rw[hb1,cond_true,hb2,cond_true];have e:((qd 0 (.str { data:=#[] }) [])++(r.x.map sF))++(qd 1 (.str { data:=#[] }) [(0,(.str { data:=#[48] }))])=(r.x++[[48]]).map sF:=by rw[List.map_append];rfl
     rw[e];have:=q8s (n:=n) R;refine(bindE this).trans ?_;rw[qcp (λq=>by have:=q.x;simp only[List.length_append,List.length_singleton]at this;omega)];rfl
    ·rw[show(Int.tmod x 4==1)=false by simp[q1],cond_false];by_cases q2:Int.tmod x 4=2
     ·rw[q2,show((2:Int)==2)=true from rfl,cond_true]
      have R:Sm g ss bs { r with f:=r.f.take (r.f.length-1) }:={ h with
        fl:=by show(r.f.take _).length<=256;rw[List.length_take];omega
        f:=λl hl=>h.f l (List.mem_of_mem_take hl) }
      rw[List.length_map,qm (by omega) (by omega),show(r.f.length:Int)-1=((r.f.length-1:Nat):Int) by omega,q1w (by omega),Option.bind_some,List.drop_zero,<- List.map_take];have:=q8s (n:=n) R;refine(bindE this).trans ?_;rw[qcp (λq=>by have:=q.f;simp only[List.length_take]at this;omega)];rfl
     ·rw[show(Int.tmod x 4==2)=false by simp[q2],cond_false]
      have R:Sm g ss bs { r with p:=r.p.drop 1 }:={ h with
        pl:=by show(r.p.drop 1).length<=256;rw[List.length_drop];omega
        p:=λl hl=>h.p l (List.mem_of_mem_drop hl) }
      rw[List.length_map,show(1:Int)=((1:Nat):Int) from rfl,q1w (by omega),Option.bind_some,List.take_of_length_le (by rw[List.length_map];omega),<- List.map_drop];have:=q8s (n:=n) R;refine(bindE this).trans ?_;rw[qcp (λq=>by have:=q.p;simp only[List.length_drop]at this;omega)];rfl
  ·rw[show(chkV g ss bs r !=0)=true by simp[h0],cond_true]
end
theorem qqt (L:List FV) (h:All2 Fits [.int .i64,.int .i64,.lst true 24 [.int .i64,.int .i64,.int .i64],.int .i64,.int .i64,.lst true 64 [.str,.int .i64,.int .i64,.int .i64,.bool,.int .i64,.int .i64],
  .lst true 88 [.str,.int .i64,.int .i64,.bool,.int .i64,.lst false 8 [.int .i64],.int .i64,.int .i64],.lst false 1 [.bool],.lst false 16 [.str],.lst false 24 [.lst false 16 [.str]],.lst false 24 [.lst false 16 [.str]],.str,.str,.bool,.int .i64] L) :
  ∃n,evF EnC n 5 L=some [.bool true]:=by
 obtain⟨g,ss,bs,r,rest,rfl,hS,hz⟩:=case_of h;obtain rfl:=hz.q52;exact⟨9000000000000000+2,qqr hS (Nat.le_refl _)⟩
theorem qpr (L:List FV) (h:All2 Fits [.int .i64,.int .i64,.lst true 24 [.int .i64,.int .i64,.int .i64],.int .i64,.int .i64,.lst true 64 [.str,.int .i64,.int .i64,.int .i64,.bool,.int .i64,.int .i64],
  .lst true 88 [.str,.int .i64,.int .i64,.bool,.int .i64,.lst false 8 [.int .i64],.int .i64,.int .i64],.lst false 1 [.bool],.lst false 16 [.str],.lst false 24 [.lst false 16 [.str]],.lst false 24 [.lst false 16 [.str]],.str,.str,.bool,.int .i64,.int .u8] L) :
  ∃n,evF EnC n 4 L=some [.bool true]:=by
 obtain⟨g,ss,bs,r,rest,rfl,hS,hz⟩:=case_of h;obtain⟨y,r1,rfl,h1,hz⟩:=hz.cons_inv;obtain rfl:=hz.q52;obtain⟨x,rfl,_⟩:=h1.q1c;exact⟨9000000000000000+2,qqs hS (Nat.le_refl _)⟩
end Rf
end
