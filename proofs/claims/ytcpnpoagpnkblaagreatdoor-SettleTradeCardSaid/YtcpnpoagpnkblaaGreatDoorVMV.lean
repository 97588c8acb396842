/- Texts of this work put together, their blanks and comments taken out: EnvA, EqOrd, EqPcs, EqRcs. -/
import Derived.Test.YtcpnpoagpnkblaaGreatDoorVMR
import Derived.Test.YtcpnpoagpnkblaaGreatDoorVMH
import Derived.KernelRfl
set_option linter.unusedVariables false
set_option linter.unusedSimpArgs false
section
/- The tables with numbers as contracts; contracts out of what a function comes to in tables below. -/
namespace Rf
open Go
def EvO(E:Env)(f:FuncId)(L R:List FV):Prop:=∃n0,∀n,n0<=n->evF E n f L=some R
theorem EvO.det{E:Env}{f:FuncId}{L R R':List FV}(h:EvO E f L R)(h':EvO E f L R'):R=R':=by
 obtain⟨n,hn⟩:=h;obtain⟨m,hm⟩:=h';exact Option.some.inj ((hn (max n m) (Nat.le_max_left ..)).symm.trans (hm _ (Nat.le_max_right ..)))
theorem EvO.run{E:Env}{f:FuncId}{L R:List FV}(h:EvO E f L R):∃n,evF E n f L=some R:=let ⟨n,hn⟩:=h;⟨n,hn n (Nat.le_refl n)⟩
open Classical in
noncomputable def limO(E:Env)(f:FuncId)(L:List FV):Option (List FV):=if h:∃R,EvO E f L R then some h.choose else none
theorem q1v{E:Env}{f:FuncId}{L R:List FV}(h:EvO E f L R):limO E f L=some R:=by
 unfold limO;rw[dif_pos ⟨R,h⟩];exact congrArg some (EvO.det (Exists.choose_spec (⟨R,h⟩:∃R,EvO E f L R)) h)
theorem limO_some{E:Env}{f:FuncId}{L R:List FV}(h:limO E f L=some R):EvO E f L R:=by
 unfold limO at h;split at h
 ·rename_i hx;cases h;exact hx.choose_spec
 ·cases h
theorem q7k{E:Env}(hE:qz E)(hX:q4x E){f:FuncId}{i:FnI}{L L':List FV}(hi:E.fn f=some i)(h:limO E f L=some L'):Enters E.P (vb f)/\q2j E.P (vb f) i L L':=by
 obtain⟨n,hn⟩:=(limO_some h).run;exact evF_ok hE hX n f i L L' hi hn
abbrev XT:=List (Nat×(List FV->Option (List FV)))
noncomputable def lims(E:Env)(fs:List Nat):XT:=fs.map λf=>(f,limO E f)
theorem q7l{E:Env}{f:Nat}{g:List FV->Option (List FV)}:∀ {fs:List Nat},lookN f (lims E fs)=some g->g=limO E f
 |[],h=>by simp[lims,lookN]at h
 |k::fs,h=>by
  have h:(bif Nat.beq k f then some (limO E k)else lookN f (lims E fs))=some g:=h;cases hb:Nat.beq k f with
  |true =>
   rw[hb,cond_true]at h;rw[<- Nat.eq_of_beq_eq_true hb];exact(Option.some.inj h).symm
  |false =>
   rw[hb,cond_false]at h;exact q7l h
theorem qb5{α:Type}{f:Nat}{x:α}:∀ {l r:List (Nat×α)},lookN f (l++r)=some x->lookN f l=some x\/lookN f r=some x
 |[],r,h=>.inr h
 |(k,y)::l,r,h=>by
  have h:(bif Nat.beq k f then some y else lookN f (l++r))=some x:=h;have e:lookN f ((k,y)::l)=(bif Nat.beq k f then some y else lookN f l):=rfl;rw[e];cases hb:Nat.beq k f with
  |true=>rw[hb]at h;exact .inl h
  |false=>rw[hb]at h;exact qb5 h
def numF:List Nat:=[111,112,113,115,116,118,154,167,169,83,
 84,85,12,92,37,38,32,22,13,
 14,39,24,79,43,25,26,
 117,61,20,21]
noncomputable def extN:XT:=lims En numF
noncomputable def EnA:Env:=⟨Go.Proofs.Tryz.prog,fcT,tyT,fnT,λf=>lookN f extN⟩
theorem envOkA:qz EnA:=⟨λ_ _ h=>qb0 qb1 h,λ_ _ h=>List.all_eq_true.1 qb2 _ (q7j h),λ_ _ h=>qb3 qb4 h,Checked.mixed Go.Proofs.Tryz.checked⟩
theorem extA_ok(hX:q4x En):q4x EnA:=by
 intro f g i L L' hf hi hL;rw[q7l hf]at hL;exact q7k envOk hX hi hL
end Rf
end
section
/- Made by a program of this work: what each function comes to, one step of it; by the kernel. -/
set_option maxRecDepth 100000
set_option maxHeartbeats 4000000
namespace Rf
open Go
variable (n m:Nat)
variable (w x:Bool)
variable (a r g u h k q i:List FV)
variable (j t:ByteArray)
variable (e b c d f s p o v l:Int)
noncomputable def q1l.l4(n:Nat)(ms:List Nat)(m:Nat)(L:List FV):Res:=Lp EnA n 18 [1,1,0,1,0] ms m L
noncomputable def q1l.l11(n:Nat)(ms:List Nat)(m:Nat)(L:List FV):Res:=Lp EnA n 18 [1,1,1,1,0,1,0] ms m L
noncomputable def q1l.l19(n:Nat)(ms:List Nat)(m:Nat)(L:List FV):Res:=Lp EnA n 18 [1,1,1,1,1,1,0,1,0] ms m L
theorem q1l.q1r:q1l.l4 n [] (m+1) (k7 e b g d f h k [.list 7 q,iI v,iI l]) =
(cond (l<v) ((ix l q.length).bind λy=> (asStr (at' q y 0)).bind λM=> (asInt .i64 (at' q y 1)).bind λN=> (asInt .i64 (at' q y 2)).bind λz=> (asInt .i64 (at' q y 3)).bind λA=> (asBool (at' q y 4)).bind λO=> (asInt .i64 (at' q y 5)).bind λB=> (asInt .i64 (at' q y 6)).bind λC=> (evF EnA n 64 [iI z,iI 0,iI (IntKind.wrap .i64 (e-1))]).bind λD=> (asBool D[0]?).bind λE=>
(cond (!E) (some [.bool false]) ((evF EnA n 64 [iI A,iI 0,iI (IntKind.wrap .i64 (b-1))]).bind λF=> (asBool F[0]?).bind λG=>
(cond (!G) (some [.bool false]) ((evF EnA n 64 [iI B,iI 1,iI 1000]).bind λH=> (asBool H[0]?).bind λI=>
(cond (!I) (some [.bool false]) ((evF EnA n 64 [iI C,iI d,iI f]).bind λJ=> (asBool J[0]?).bind λK=>
(cond (!K) (some [.bool false]) (q1l.l4 n [] m (k7 e b g d f h k [.list 7 q,iI v,iI (IntKind.wrap .i64 (l+1))])))))))))) (q1l.l11 n [] n (k7 e b g d f h k [.raw (Go.Value.func (Go.Fn.func 65) #[] #[]),.list 8 k,iI (k.length:Int),iI 0]))):=by kernel_rfl
theorem q1l.qa2(n m:Nat)(e:Int)(b:Int)(g:List FV)(d:Int)(f:Int)(h:List FV)(k:List FV)  (i:List FV) (l:Int) (x10:Int):q1l.l11 n [] (m+1) (k7 e b g d f h k [.raw (Go.Value.func (Go.Fn.func 65) #[] #[]),.list 8 i,iI l,iI x10]) =
(cond (x10<l) ((ix x10 i.length).bind λy=> (asStr (at' i y 0)).bind λP=> (asInt .i64 (at' i y 1)).bind λQ=> (asInt .i64 (at' i y 2)).bind λA=> (asBool (at' i y 3)).bind λR=> (asInt .i64 (at' i y 4)).bind λB=> (asLst 1 (at' i y 5)).bind λz=> (asInt .i64 (at' i y 6)).bind λS=> (asInt .i64 (at' i y 7)).bind λT=> (evF EnA n 64 [iI A,iI 0,iI (IntKind.wrap .i64 (e-1))]).bind λC=> (asBool C[0]?).bind λD=>
(cond (!D) (some [.bool false]) ((evF EnA n 64 [iI B,iI d,iI f]).bind λE=> (asBool E[0]?).bind λF=>
(cond (!F) (some [.bool false]) (cond ((z.length:Int) !=b) (some [.bool false]) ((evF EnA n 66 [iL z,.raw (Go.Value.func (Go.Fn.func 65) #[] #[])]).bind λG=> (asBool G[0]?).bind λH=>
(cond H (some [.bool false]) ((evF EnA n 67 [iL z]).bind λI=> (asInt .i64 (I[0]?)).bind λJ=>
(cond (J==0) (some [.bool false]) (q1l.l11 n [] m (k7 e b g d f h k [.raw (Go.Value.func (Go.Fn.func 65) #[] #[]),.list 8 i,iI l,iI (IntKind.wrap .i64 (x10+1))]))))))))))) ((evF EnA n 68 [.list 7 h,.raw (Go.Value.func (Go.Fn.func 69) #[] #[])]).bind λK=> (asBool K[0]?).bind λM=>
(cond (!M) (some [.bool false]) ((evF EnA n 70 [.list 8 k,.raw (Go.Value.func (Go.Fn.func 71) #[] #[])]).bind λN=> (asBool N[0]?).bind λO=>
(cond (!O) (some [.bool false]) (q1l.l19 n [] n [.list 8 k,iI (k.length:Int),iI 0])))))):=by kernel_rfl
theorem q1l.q6x:q1l.l19 n [] (m+1) [.list 8 a,iI b,iI c] =
(cond (c<b) ((evF EnA n 72 [.list 8 a,iI c]).bind λy=> (asBool y[0]?).bind λz=>
(cond (!z) (some [.bool false]) (q1l.l19 n [] m [.list 8 a,iI b,iI (IntKind.wrap .i64 (c+1))]))) (some [.bool true])):=by kernel_rfl
theorem qp9:evF EnA (n+1) 18 (k7 e b g d f h k [])=(evF EnA n 63 (k5 e b g d f [])).bind λy=> (asInt .i64 (y[0]?)).bind λz=>
(cond (z !=0) (some [.bool false]) (cond ((h.length:Int)>32) (some [.bool false]) (cond ((k.length:Int)>12) (some [.bool false]) (q1l.l4 n [] n (k7 e b g d f h k [.list 7 h,iI (h.length:Int),iI 0]))))):=by kernel_rfl
theorem qoq:evF EnA (n+1) 63 (k5 e b g d f [])=(evF EnA n 126 [iI e,iI 1,iI 3]).bind λA=> (asBool A[0]?).bind λB=>
(cond (!B) (some [iI 140]) ((evF EnA n 126 [iI b,iI 1,iI 3]).bind λC=> (asBool C[0]?).bind λD=>
(cond (!D) (some [iI 140]) (cond ((g.length:Int)>3) (some [iI 140]) ((evF EnA n 127 (.list 3 g::k5 e b g d f [])).bind λy=> (asInt .i64 y[0]?).bind λI=>(asInt .i64 y[1]?).bind λJ=>(asLst 3 y[2]?).bind λK=>(asInt .i64 y[3]?).bind λE=>(asInt .i64 y[4]?).bind λz=>(asBool y[5]?).bind λF=>
(cond F (some [iI 140]) ((evF EnA n 126 [iI E,iI (-100000),iI z]).bind λG=> (asBool G[0]?).bind λH=>
(cond (!H) (some [iI 140]) (cond (z>100000) (some [iI 140]) (some [iI 0])))))))))):=by kernel_rfl
theorem qor:evF EnA (n+1) 65 [iI e]=(evF EnA n 64 [iI e,iI 0,iI 1000]).bind λy=> (asBool y[0]?).bind λz=>some [.bool (!z)]:=by kernel_rfl
theorem qos(n:Nat)(a:List FV)  : evF EnA (n+1) 66 [iL a,.raw (Go.Value.func (Go.Fn.func 65) #[] #[])]=(evF EnA n 128 [iL a,.raw (Go.Value.func (Go.Fn.func 65) #[] #[])]).bind λy=> (asInt .i64 y[0]?).bind λz=>some [.bool (decide (z≥0))]:=by kernel_rfl
noncomputable def q82.l5(n:Nat)(ms:List Nat)(m:Nat)(L:List FV):Res:=Lp EnA n 67 [1,1,1,0,1,0] ms m L
theorem q82.q1x:q82.l5 n [] (m+1) [iL a,iI b,iI c] =
(cond (c<(a.length:Int)) ((ix c a.length).bind λz=> (asInt .i64 (at' a z 0)).bind λy=> q82.l5 n [] m [iL a,iI (if b<y then y else b),iI (IntKind.wrap .i64 (c+1))]) (some [iI b])):=by kernel_rfl
theorem qou:evF EnA (n+1) 67 [iL a] =
(cond ((a.length:Int)<1) none ((ix 0 a.length).bind λy=> (asInt .i64 (at' a y 0)).bind λz=> q82.l5 n [] n [iL a,iI z,iI 1])):=by kernel_rfl
noncomputable def q66.l2(n:Nat)(ms:List Nat)(m:Nat)(L:List FV):Res:=Lp EnA n 68 [1,0,1,0] ms m L
theorem q66.qu(n m:Nat)(a:List FV)  (c:Int):q66.l2 n [] (m+1) [.list 7 a,.raw (Go.Value.func (Go.Fn.func 69) #[] #[]),iI c] =
(cond (c<(a.length:Int)) ((ix (IntKind.wrap .i64 (c-1)) a.length).bind λy=> (asStr (at' a y 0)).bind λC=> (asInt .i64 (at' a y 1)).bind λD=> (asInt .i64 (at' a y 2)).bind λE=> (asInt .i64 (at' a y 3)).bind λF=> (asBool (at' a y 4)).bind λG=> (asInt .i64 (at' a y 5)).bind λH=> (asInt .i64 (at' a y 6)).bind λI=> (evF EnA n 69 (kS C D E F G H I [])).bind λA=> (asStr A[0]?).bind λJ=>(asInt .i64 A[1]?).bind λK=>(ix c a.length).bind λz=> (asStr (at' a z 0)).bind λM=> (asInt .i64 (at' a z 1)).bind λN=> (asInt .i64 (at' a z 2)).bind λO=> (asInt .i64 (at' a z 3)).bind λP=> (asBool (at' a z 4)).bind λQ=> (asInt .i64 (at' a z 5)).bind λR=> (asInt .i64 (at' a z 6)).bind λS=> (evF EnA n 69 (kS M N O P Q R S [])).bind λB=> (asStr B[0]?).bind λT=>(asInt .i64 B[1]?).bind λU=>(evF EnA n 130 [.str J,.str T]).bind λV=> (asInt .i64 V[0]?).bind λW=>(evF EnA n 131 [iI K,iI U]).bind λX=> (asInt .i64 X[0]?).bind λY=>(evF EnA n 129 [iL (qd 2 (iI 0) [(0,(iI W)),(1,(iI Y))])]).bind λZ=> (asInt .i64 (Z[0]?)).bind λn27=>
(cond (n27≥0) (some [.bool false]) (q66.l2 n [] m [.list 7 a,.raw (Go.Value.func (Go.Fn.func 69) #[] #[]),iI (IntKind.wrap .i64 (c+1))]))) (some [.bool true])):=by kernel_rfl
theorem qp0(n:Nat)(a:List FV)  : evF EnA (n+1) 68 [.list 7 a,.raw (Go.Value.func (Go.Fn.func 69) #[] #[])]=q66.l2 n [] n [.list 7 a,.raw (Go.Value.func (Go.Fn.func 69) #[] #[]),iI 1]:=by kernel_rfl
theorem qil:evF EnA (n+1) 69 (kS j b c d x s p [])=some [.str j,iI b]:=by kernel_rfl
noncomputable def q72.l2(n:Nat)(ms:List Nat)(m:Nat)(L:List FV):Res:=Lp EnA n 70 [1,0,1,0] ms m L
theorem q72.qu(n m:Nat)(a:List FV)  (c:Int):q72.l2 n [] (m+1) [.list 8 a,.raw (Go.Value.func (Go.Fn.func 71) #[] #[]),iI c] =
(cond (c<(a.length:Int)) ((ix (IntKind.wrap .i64 (c-1)) a.length).bind λy=> (asStr (at' a y 0)).bind λC=> (asInt .i64 (at' a y 1)).bind λD=> (asInt .i64 (at' a y 2)).bind λE=> (asBool (at' a y 3)).bind λF=> (asInt .i64 (at' a y 4)).bind λG=> (asLst 1 (at' a y 5)).bind λH=> (asInt .i64 (at' a y 6)).bind λI=> (asInt .i64 (at' a y 7)).bind λJ=> (evF EnA n 71 (kB C D E F G H I J [])).bind λA=> (asStr A[0]?).bind λK=>(asInt .i64 A[1]?).bind λM=>(ix c a.length).bind λz=> (asStr (at' a z 0)).bind λN=> (asInt .i64 (at' a z 1)).bind λO=> (asInt .i64 (at' a z 2)).bind λP=> (asBool (at' a z 3)).bind λQ=> (asInt .i64 (at' a z 4)).bind λR=> (asLst 1 (at' a z 5)).bind λS=> (asInt .i64 (at' a z 6)).bind λT=> (asInt .i64 (at' a z 7)).bind λU=> (evF EnA n 71 (kB N O P Q R S T U [])).bind λB=> (asStr B[0]?).bind λV=>(asInt .i64 B[1]?).bind λW=>(evF EnA n 130 [.str K,.str V]).bind λX=> (asInt .i64 X[0]?).bind λY=>(evF EnA n 131 [iI M,iI W]).bind λZ=> (asInt .i64 Z[0]?).bind λn27=>(evF EnA n 129 [iL (qd 2 (iI 0) [(0,(iI Y)),(1,(iI n27))])]).bind λr28=> (asInt .i64 (r28[0]?)).bind λn29=>
(cond (n29≥0) (some [.bool false]) (q72.l2 n [] m [.list 8 a,.raw (Go.Value.func (Go.Fn.func 71) #[] #[]),iI (IntKind.wrap .i64 (c+1))]))) (some [.bool true])):=by kernel_rfl
theorem qp1(n:Nat)(a:List FV)  : evF EnA (n+1) 70 [.list 8 a,.raw (Go.Value.func (Go.Fn.func 71) #[] #[])]=q72.l2 n [] n [.list 8 a,.raw (Go.Value.func (Go.Fn.func 71) #[] #[]),iI 1]:=by kernel_rfl
theorem qim:evF EnA (n+1) 71 (kB j b c w f h p o [])=some [.str j,iI b]:=by kernel_rfl
noncomputable def q85.l2(n:Nat)(ms:List Nat)(m:Nat)(L:List FV):Res:=Lp EnA n 72 [1,0,1,0] ms m L
theorem q85.qu:q85.l2 n [] (m+1) [.list 8 a,iI b,iI c,iI d] =
(cond (d<c) ((ix b a.length).bind λz=> (asInt .i64 (at' a z 6)).bind λA=>
(cond (A<=0) (some [.bool true]) ((evF EnA n 132 [.list 8 a,iI b]).bind λB=> (asInt .i64 (B[0]?)).bind λy=>
(cond (y<0) (some [.bool false]) (cond (y==b) (some [.bool false]) (q85.l2 n [] m [.list 8 a,iI y,iI c,iI (IntKind.wrap .i64 (d+1))])))))) (some [.bool false])):=by kernel_rfl
theorem qp8:evF EnA (n+1) 72 [.list 8 a,iI b]=q85.l2 n [] n [.list 8 a,iI b,iI (IntKind.wrap .i64 ((a.length:Int)+1)),iI 0]:=by kernel_rfl
theorem qom:evF EnA (n+1) 125 (iI e::iI b::iI c::k5 d f h p o [])=(evF EnA n 126 [iI e,iI 0,iI (IntKind.wrap .i64 (d-1))]).bind λy=> (asBool y[0]?).bind λz=>
(cond (!z) (some (k5 d f h p o [.bool true])) ((evF EnA n 126 [iI b,iI 0,iI (IntKind.wrap .i64 (d-1))]).bind λA=> (asBool A[0]?).bind λB=>
(cond (!B) (some (k5 d f h p o [.bool true])) (cond (e==b) (some (k5 d f h p o [.bool true])) ((evF EnA n 126 [iI c,iI 0,iI 1000]).bind λC=> (asBool C[0]?).bind λD=>some (k5 d f h p o [.bool (!D)])))))):=by kernel_rfl
theorem qol:evF EnA (n+1) 126 [iI e,iI b,iI c] =
(cond (b<=e) (some [.bool (decide (e<=c))]) (some [.bool false])):=by kernel_rfl
theorem qoo:evF EnA (n+1) 127 (.list 3 a::k5 b c u f s [])=(evF EnA n 179 (.list 3 a::k5 b c u f s [])).bind λy=> (asInt .i64 y[0]?).bind λz=>(asInt .i64 y[1]?).bind λA=>(asLst 3 y[2]?).bind λB=>(asInt .i64 y[3]?).bind λC=>(asInt .i64 y[4]?).bind λD=>(asInt .i64 y[5]?).bind λE=>some (k5 z A B C D [.bool (decide (E≥0))]):=by kernel_rfl
noncomputable def q5d.l2(n:Nat)(ms:List Nat)(m:Nat)(L:List FV):Res:=Lp EnA n 128 [1,0,1,0] ms m L
theorem q5d.qu(n m:Nat)(a:List FV)  (c:Int) (d:Int):q5d.l2 n [] (m+1) [iL a,.raw (Go.Value.func (Go.Fn.func 65) #[] #[]),iI c,iI d] =
(cond (d<c) ((ix d a.length).bind λy=> (asInt .i64 (at' a y 0)).bind λz=> (evF EnA n 65 [iI z]).bind λA=> (asBool A[0]?).bind λB=>
(cond B (some [iI d]) (q5d.l2 n [] m [iL a,.raw (Go.Value.func (Go.Fn.func 65) #[] #[]),iI c,iI (IntKind.wrap .i64 (d+1))]))) (some [iI (-1)])):=by kernel_rfl
theorem qot(n:Nat)(a:List FV)  : evF EnA (n+1) 128 [iL a,.raw (Go.Value.func (Go.Fn.func 65) #[] #[])]=q5d.l2 n [] n [iL a,.raw (Go.Value.func (Go.Fn.func 65) #[] #[]),iI (a.length:Int),iI 0]:=by kernel_rfl
noncomputable def q65.l3(n:Nat)(ms:List Nat)(m:Nat)(L:List FV):Res:=Lp EnA n 129 [1,1,0,1,0] ms m L
theorem q65.qv:q65.l3 n [] (m+1) [iI e,iL r,iI c,iI d] =
(cond (d<c) ((ix d r.length).bind λz=> (asInt .i64 (at' r z 0)).bind λy=>
(cond (y !=e) (some [iI y]) (q65.l3 n [] m [iI e,iL r,iI c,iI (IntKind.wrap .i64 (d+1))]))) (some [iI e])):=by kernel_rfl
theorem qoz:evF EnA (n+1) 129 [iL a]=q65.l3 n [] n [iI 0,iL a,iI (a.length:Int),iI 0]:=by kernel_rfl
theorem qov:evF EnA (n+1) 130 [.str j,.str t]=(evF EnA n 180 [.str j]).bind λz=> (asBool z[0]?).bind λA=>(evF EnA n 180 [.str t]).bind λB=> (asBool B[0]?).bind λy=>
(cond A (cond y (some [iI 0]) (some [iI (-1)])) (cond y (some [iI 1]) (cond (Go.Op.bytesLess j.toList t.toList) (some [iI (-1)]) (cond (!((Go.Op.bytesLess j.toList t.toList)||(j.toList==t.toList))) (some [iI 1]) (some [iI 0]))))):=by kernel_rfl
theorem qox:evF EnA (n+1) 131 [iI e,iI b]=(evF EnA n 181 [iI e]).bind λz=> (asBool z[0]?).bind λA=>(evF EnA n 181 [iI b]).bind λB=> (asBool B[0]?).bind λy=>
(cond A (cond y (some [iI 0]) (some [iI (-1)])) (cond y (some [iI 1]) (cond (e<b) (some [iI (-1)]) (cond (e>b) (some [iI 1]) (some [iI 0]))))):=by kernel_rfl
theorem qp4:evF EnA (n+1) 132 [.list 8 a,iI b]=(evF EnA n 182 [.list 8 a,.list 8 a,iI b]).bind λy=> (asLst 8 y[0]?).bind λA=>(asInt .i64 y[1]?).bind λB=>(asInt .i64 y[2]?).bind λz=>some [iI z]:=by kernel_rfl
noncomputable def q64.l2(n:Nat)(ms:List Nat)(m:Nat)(L:List FV):Res:=Lp EnA n 179 [1,0,1,0] ms m L
theorem q64.qu:q64.l2 n [] (m+1) (k5 e b g d f [.list 3 h,iI p,iI o]) =
(cond (o<p) ((ix o h.length).bind λz=> (asInt .i64 (at' h z 0)).bind λF=> (asInt .i64 (at' h z 1)).bind λG=> (asInt .i64 (at' h z 2)).bind λH=> (evF EnA n 125 (iI F::iI G::iI H::k5 e b g d f [])).bind λy=> (asInt .i64 y[0]?).bind λA=>(asInt .i64 y[1]?).bind λB=>(asLst 3 y[2]?).bind λC=>(asInt .i64 y[3]?).bind λD=>(asInt .i64 y[4]?).bind λE=>(asBool y[5]?).bind λI=>
(cond I (some (k5 A B C D E [iI o])) (q64.l2 n [] m (k5 A B C D E [.list 3 h,iI p,iI (IntKind.wrap .i64 (o+1))])))) (some (k5 e b g d f [iI (-1)]))):=by kernel_rfl
theorem qon:evF EnA (n+1) 179 (.list 3 a::k5 b c u f s [])=q64.l2 n [] n (k5 b c u f s [.list 3 a,iI (a.length:Int),iI 0]):=by kernel_rfl
theorem qow:evF EnA (n+1) 180 [.str j]=some [.bool (!(j.toList==j.toList))]:=by kernel_rfl
theorem qoy:evF EnA (n+1) 181 [iI e]=some [.bool (e !=e)]:=by kernel_rfl
noncomputable def q5e.l2(n:Nat)(ms:List Nat)(m:Nat)(L:List FV):Res:=Lp EnA n 182 [1,0,1,0] ms m L
theorem q5e.qu:q5e.l2 n [] (m+1) [.list 8 a,iI b,.list 8 g,iI d,iI f] =
(cond (f<d) ((ix f g.length).bind λy=> (asStr (at' g y 0)).bind λC=> (asInt .i64 (at' g y 1)).bind λD=> (asInt .i64 (at' g y 2)).bind λE=> (asBool (at' g y 3)).bind λF=> (asInt .i64 (at' g y 4)).bind λG=> (asLst 1 (at' g y 5)).bind λH=> (asInt .i64 (at' g y 6)).bind λI=> (asInt .i64 (at' g y 7)).bind λJ=> (evF EnA n 183 (kB C D E F G H I J [.list 8 a,iI b])).bind λz=> (asLst 8 z[0]?).bind λA=>(asInt .i64 z[1]?).bind λB=>(asBool z[2]?).bind λK=>
(cond K (some [.list 8 A,iI B,iI f]) (q5e.l2 n [] m [.list 8 A,iI B,.list 8 g,iI d,iI (IntKind.wrap .i64 (f+1))]))) (some [.list 8 a,iI b,iI (-1)])):=by kernel_rfl
theorem qp5:evF EnA (n+1) 182 [.list 8 a,.list 8 r,iI c]=q5e.l2 n [] n [.list 8 r,iI c,.list 8 a,iI (a.length:Int),iI 0]:=by kernel_rfl
theorem qp2:evF EnA (n+1) 183 (kB j b c w f h p o [.list 8 i,iI l])=(ix l i.length).bind λy=> (asStr (at' i y 0)).bind λz=>
(cond (j.toList==z.toList) ((ix l i.length).bind λA=> (asInt .i64 (at' i A 6)).bind λB=> some [.list 8 i,iI l,.bool (b==B)]) (some [.list 8 i,iI l,.bool false])):=by kernel_rfl
end Rf
end
section
/- Made by a program of this work: what each function comes to, one step of it; by the kernel. -/
set_option maxRecDepth 100000
set_option maxHeartbeats 4000000
namespace Rf
open Go
variable (n m:Nat)
variable (C7 A5 A6 C5 s x y w u C3:Bool)
variable (C I a B0 A7 d f i q l o C2 C4 b j k v A z B H F B2 J:List FV)
variable (A2:Nat)
variable (C6 r t:ByteArray)
variable (g e A0 c h A8 B3 A9 B5 B6 C8 C9 p C1 C0 B9 G E D B1 B4 A1 A4:Int)
variable (A3 B8 B7:FV)
noncomputable def q4l.l4(n:Nat)(ms:List Nat)(m:Nat)(L:List FV):Res:=Lp EnA n 44 [1,1,0,1,0] ms m L
theorem q4l.q1r:q4l.l4 n [] (m+1) (k26 g e a c h d f i q l o r t s p b j k v x A y z w B u [iI G,iI E]) =
(cond (E<G) ((ix E l.length).bind λK=> (asLst 1 (at' l K 0)).bind λM=>
(cond ((M.length:Int) !=(a.length:Int)) (some (k26 g e a c h d f i q l o r t s p b j k v x A y z w B u [.bool false])) ((ix E o.length).bind λN=> (asLst 1 (at' o N 0)).bind λO=>
(cond ((O.length:Int) !=g) (some (k26 g e a c h d f i q l o r t s p b j k v x A y z w B u [.bool false])) (q4l.l4 n [] m (k26 g e a c h d f i q l o r t s p b j k v x A y z w B u [iI G,iI (IntKind.wrap .i64 (E+1))])))))) (some (k26 g e a c h d f i q l o r t s p b j k v x A y z w B u [.bool true]))):=by kernel_rfl
theorem qkr:evF EnA (n+1) 44 (k26 g e a c h d f i q l o r t s p b j k v x A y z w B u [])=(evF EnA n 18 (k7 g e a c h d f [])).bind λK=> (asBool K[0]?).bind λM=>
(cond (!M) (some (k26 g e a c h d f i q l o r t s p b j k v x A y z w B u [.bool false])) (cond ((i.length:Int) !=(f.length:Int)) (some (k26 g e a c h d f i q l o r t s p b j k v x A y z w B u [.bool false])) (cond ((q.length:Int) !=(d.length:Int)) (some (k26 g e a c h d f i q l o r t s p b j k v x A y z w B u [.bool false])) (cond ((l.length:Int) !=e) (some (k26 g e a c h d f i q l o r t s p b j k v x A y z w B u [.bool false])) (cond ((o.length:Int) !=e) (some (k26 g e a c h d f i q l o r t s p b j k v x A y z w B u [.bool false])) (cond (p<0) (some (k26 g e a c h d f i q l o r t s p b j k v x A y z w B u [.bool false])) (q4l.l4 n [] n (k26 g e a c h d f i q l o r t s p b j k v x A y z w B u [iI e,iI 0])))))))):=by kernel_rfl
noncomputable def q78.l5(n:Nat)(ms:List Nat)(m:Nat)(L:List FV):Res:=Lp EnA n 45 [1,1,1,1,0,1,0] ms m L
theorem q78.q1x:q78.l5 n [] (m+1) (k26 g e a c h d f i q l o r t s p b j k v x A y z w B u [.bool C3,iI E,iI D]) =
(cond (D<E) ((ix D l.length).bind λU=> (asLst 1 (at' l U 0)).bind λV=> (evF EnA n 104 [iL V,.bool C3]).bind λP=> (asBool P[0]?).bind λW=>(asLst 4 (P[1]?)).bind λQ=>
(cond (Nat.ble (j.length+(qd 1 (.list 4 []) [(0,(.list 4 Q))]).length) 5864062014805) ((ix D o.length).bind λX=> (asLst 1 (at' o X 0)).bind λY=> (evF EnA n 104 [iL Y,.bool W]).bind λR=> (asBool R[0]?).bind λZ=>(asLst 4 (R[1]?)).bind λS=>
(cond (Nat.ble (k.length+(qd 1 (.list 4 []) [(0,(.list 4 S))]).length) 5864062014805) (q78.l5 n [] m (k26 g e a c h d f i q l o r t s p b (j++(qd 1 (.list 4 []) [(0,(.list 4 Q))])) (k++(qd 1 (.list 4 []) [(0,(.list 4 S))])) v x A y z w B u [.bool Z,iI E,iI (IntKind.wrap .i64 (D+1))])) none)) none)) ((evF EnA n 104 [iL (qd 2 (.str { data:=#[] }) [(0,(.str r)),(1,(.str t))]),.bool C3]).bind λT=> (asBool T[0]?).bind λO=>(asLst 4 (T[1]?)).bind λK=>
(cond O ((ix 0 K.length).bind λM=> (asLst 1 (at' K M 0)).bind λv14=> (asBool (at' K M 1)).bind λc15=> (asLst 1 (at' K M 2)).bind λv16=> (asBool (at' K M 3)).bind λc17=> (ix 1 K.length).bind λN=> (asLst 1 (at' K N 0)).bind λv19=> (asBool (at' K N 1)).bind λc20=> (asLst 1 (at' K N 2)).bind λv21=> (asBool (at' K N 3)).bind λc22=> some (k26 g e a c h d f i q l o r t s p b j k v14 c15 v16 c17 v19 c20 v21 c22 [.bool O])) (some (k26 g e a c h d f i q l o r t s p b j k v x A y z w B u [.bool O]))))):=by kernel_rfl
theorem qkt:evF EnA (n+1) 45 (k26 g e a c h d f i q l o r t s p b j k v x A y z w B u [])=(evF EnA n 104 [iL q,.bool true]).bind λK=> (asBool K[0]?).bind λM=>(asLst 4 K[1]?).bind λN=>q78.l5 n [] n (k26 g e a c h d f i q l o r t s p N j k v x A y z w B u [.bool M,iI e,iI 0]):=by kernel_rfl
noncomputable def q13.l2(n:Nat)(ms:List Nat)(m:Nat)(L:List FV):Res:=Lp EnA n 47 [1,0,1,0] ms m L
noncomputable def q13.l6(n:Nat)(ms:List Nat)(m:Nat)(L:List FV):Res:=Lp EnA n 47 [1,0,1,0,0,1,1,0,0,1,1,0,1,0] ms m L
noncomputable def q13.l11(n:Nat)(ms:List Nat)(m:Nat)(L:List FV):Res:=Lp EnA n 47 [1,0,1,0,0,1,1,0,0,1,1,1,0,1,0] ms m L
noncomputable def q13.l19(n:Nat)(ms:List Nat)(m:Nat)(L:List FV):Res:=Lp EnA n 47 [1,0,1,0,0,1,1,0,0,1,1,1,1,0,1,0] ms m L
theorem q13.qu:q13.l2 n [] (m+1) (k26 g e a c h d f i q l o r t s p b j k v x A y z w B u [iI G,iI E]) =
(cond (E<G) ((q1m 64 g).bind λM=> (bd g M).bind λN=> (evF EnA n 110 (k5 g e a c h [.list 8 f,iL i,iI E])).bind λO=> (asLst 1 O[0]?).bind λK=>q13.l6 n [m] n (k26 g e a c h d f i q l o r t s p b j k v x A y z w B u [iI E,.list 4 (List.replicate N (.agg [iL [],.bool false,iL [],.bool false]:FV)),iI G,iI E,iL K,iI (K.length:Int),iI 0])) (some (k26 g e a c h d f i q l o r t s p b j k v x A y z w B u [.bool true]))):=by kernel_rfl
theorem q13.q2p:q13.l6 n [A2] (m+1) (k26 g e a c h d f i q l o r t s p b j k v x A y z w B u [iI G,.list 4 F,iI D,iI B1,iL J,iI A1,iI A4]) =
(cond (A4<A1) ((ix A4 J.length).bind λM=> (asInt .i64 (at' J M 0)).bind λN=> (evF EnA n 111 [iI N]).bind λK=> (asLst 1 K[0]?).bind λO=>(asBool K[1]?).bind λP=>(asLst 1 K[2]?).bind λQ=>(asBool K[3]?).bind λR=>(ix A4 F.length).bind λS=> q13.l6 n [A2] m (k26 g e a c h d f i q l o r t s p b j k v x A y z w B u [iI G,.list 4 (List.set F S (.agg [iL O,.bool P,iL Q,.bool R])),iI D,iI B1,iL J,iI A1,iI (IntKind.wrap .i64 (A4+1))])) (q13.l11 n [A2] n (k26 g e a c h d f i q l o r t s p b j k v x A y z w B u [iI G,.list 4 F,iI D,iI B1,.list 7 d,iI (d.length:Int),iI 0]))):=by kernel_rfl
theorem q13.qa2:q13.l11 n [A2] (m+1) (k26 g e a c h d f i q l o r t s p b j k v x A y z w B u [iI G,.list 4 F,iI D,iI B1,.list 7 J,iI A1,iI A4]) =
(cond (A4<A1) ((ix A4 J.length).bind λK=> (asStr (at' J K 0)).bind λu1=> (asInt .i64 (at' J K 1)).bind λn2=> (asInt .i64 (at' J K 2)).bind λM=> (asInt .i64 (at' J K 3)).bind λT=> (asBool (at' J K 4)).bind λU=> (asInt .i64 (at' J K 5)).bind λn6=> (asInt .i64 (at' J K 6)).bind λn7=>
(cond (T !=G) (q13.l11 n [A2] m (k26 g e a c h d f i q l o r t s p b j k v x A y z w B u [iI G,.list 4 F,iI D,iI B1,.list 7 J,iI A1,iI (IntKind.wrap .i64 (A4+1))])) (cond U ((ix M F.length).bind λN=> (asLst 1 (at' F N 0)).bind λV=> (asBool (at' F N 1)).bind λW=> (asLst 1 (at' F N 2)).bind λX=> (asBool (at' F N 3)).bind λY=> (ix A4 b.length).bind λO=> (asLst 1 (at' b O 0)).bind λZ=> (asBool (at' b O 1)).bind λc15=> (asLst 1 (at' b O 2)).bind λv16=> (asBool (at' b O 3)).bind λc17=> (evF EnA n 112 (iL V::kQ W X Y Z [.bool c15,iL v16,.bool c17])).bind λP=> (asLst 1 P[0]?).bind λv19=>(asBool P[1]?).bind λc20=>(asLst 1 P[2]?).bind λv21=>(asBool P[3]?).bind λc22=>(ix M F.length).bind λi23=> q13.l11 n [A2] m (k26 g e a c h d f i q l o r t s p b j k v x A y z w B u [iI G,.list 4 (List.set F i23 (.agg [iL v19,.bool c20,iL v21,.bool c22])),iI D,iI B1,.list 7 J,iI A1,iI (IntKind.wrap .i64 (A4+1))])) ((ix M F.length).bind λQ=> (asLst 1 (at' F Q 0)).bind λv25=> (asBool (at' F Q 1)).bind λc26=> (asLst 1 (at' F Q 2)).bind λv27=> (asBool (at' F Q 3)).bind λc28=> (ix A4 b.length).bind λR=> (asLst 1 (at' b R 0)).bind λv30=> (asBool (at' b R 1)).bind λc31=> (asLst 1 (at' b R 2)).bind λv32=> (asBool (at' b R 3)).bind λc33=> (evF EnA n 113 (iL v25::kQ c26 v27 c28 v30 [.bool c31,iL v32,.bool c33])).bind λS=> (asLst 1 S[0]?).bind λv35=>(asBool S[1]?).bind λc36=>(asLst 1 S[2]?).bind λv37=>(asBool S[3]?).bind λc38=>(ix M F.length).bind λi39=> q13.l11 n [A2] m (k26 g e a c h d f i q l o r t s p b j k v x A y z w B u [iI G,.list 4 (List.set F i39 (.agg [iL v35,.bool c36,iL v37,.bool c38])),iI D,iI B1,.list 7 J,iI A1,iI (IntKind.wrap .i64 (A4+1))]))))) (q13.l19 n [A2] n (k26 g e a c h d f i q l o r t s p b j k v x A y z w B u (iI G::.list 4 F::k5 D B1 a (a.length:Int) 0 [])))):=by kernel_rfl
theorem q13.q6x:q13.l19 n [A2] (m+1) (k26 g e a c h d f i q l o r t s p b j k v x A y z w B u (iI G::.list 4 F::k5 D B1 J A1 A4 [])) =
(cond (A4<A1) ((ix A4 J.length).bind λY=> (asInt .i64 (at' J Y 0)).bind λZ=> (asInt .i64 (at' J Y 1)).bind λn2=> (asInt .i64 (at' J Y 2)).bind λn3=> (ix Z F.length).bind λS=> (asLst 1 (at' F S 0)).bind λv5=> (asBool (at' F S 1)).bind λc6=> (asLst 1 (at' F S 2)).bind λv7=> (asBool (at' F S 3)).bind λc8=> (ix G j.length).bind λi9=> (asLst 4 (at' j i9 0)).bind λQ=> (ix A4 Q.length).bind λT=> (asLst 1 (at' Q T 0)).bind λv12=> (asBool (at' Q T 1)).bind λc13=> (asLst 1 (at' Q T 2)).bind λv14=> (asBool (at' Q T 3)).bind λc15=> (evF EnA n 112 (iL v5::kQ c6 v7 c8 v12 [.bool c13,iL v14,.bool c15])).bind λU=> (asLst 1 U[0]?).bind λK=>(asBool U[1]?).bind λM=>(asLst 1 U[2]?).bind λN=>(asBool U[3]?).bind λO=>(ix Z F.length).bind λP=> (ix n2 (List.set F P (.agg [iL K,.bool M,iL N,.bool O])).length).bind λV=> (asLst 1 (at' (List.set F P (.agg [iL K,.bool M,iL N,.bool O])) V 0)).bind λv23=> (asBool (at' (List.set F P (.agg [iL K,.bool M,iL N,.bool O])) V 1)).bind λc24=> (asLst 1 (at' (List.set F P (.agg [iL K,.bool M,iL N,.bool O])) V 2)).bind λv25=> (asBool (at' (List.set F P (.agg [iL K,.bool M,iL N,.bool O])) V 3)).bind λc26=> (ix G j.length).bind λi27=> (asLst 4 (at' j i27 0)).bind λR=> (ix A4 R.length).bind λW=> (asLst 1 (at' R W 0)).bind λv30=> (asBool (at' R W 1)).bind λc31=> (asLst 1 (at' R W 2)).bind λv32=> (asBool (at' R W 3)).bind λc33=> (evF EnA n 113 (iL v23::kQ c24 v25 c26 v30 [.bool c31,iL v32,.bool c33])).bind λX=> (asLst 1 X[0]?).bind λv35=>(asBool X[1]?).bind λc36=>(asLst 1 X[2]?).bind λv37=>(asBool X[3]?).bind λc38=>(ix n2 (List.set F P (.agg [iL K,.bool M,iL N,.bool O])).length).bind λi39=> q13.l19 n [A2] m (k26 g e a c h d f i q l o r t s p b j k v x A y z w B u (iI G::.list 4 (List.set (List.set F P (.agg [iL K,.bool M,iL N,.bool O])) i39 (.agg [iL v35,.bool c36,iL v37,.bool c38]))::k5 D B1 J A1 (IntKind.wrap .i64 (A4+1)) []))) ((evF EnA n 200109 [.list 4 F,.raw (Go.Value.func (Go.Fn.func 114) #[] #[])]).bind λr40=> (asBool r40[0]?).bind λc41=>
(cond c41 (some (k26 g e a c h d f i q l o r t s p b j k v x A y z w B u [.bool false])) (q13.l2 n [] A2 (k26 g e a c h d f i q l o r t s p b j k v x A y z w B u [iI D,iI (IntKind.wrap .i64 (B1+1))]))))):=by kernel_rfl
theorem qn2:evF EnA (n+1) 47 (k26 g e a c h d f i q l o r t s p b j k v x A y z w B u [])=q13.l2 n [] n (k26 g e a c h d f i q l o r t s p b j k v x A y z w B u [iI e,iI 0]):=by kernel_rfl
noncomputable def q2t.l2(n:Nat)(ms:List Nat)(m:Nat)(L:List FV):Res:=Lp EnA n 48 [1,0,1,0] ms m L
theorem q2t.qu:q2t.l2 n [] (m+1) (k26 g e a c h d f i q l o r t s p b j k v x A y z w B u [.list 7 H,iI E,iI D]) =
(cond (D<E) ((ix D H.length).bind λK=> (asStr (at' H K 0)).bind λu1=> (asInt .i64 (at' H K 1)).bind λn2=> (asInt .i64 (at' H K 2)).bind λn3=> (asInt .i64 (at' H K 3)).bind λn4=> (asBool (at' H K 4)).bind λc5=> (asInt .i64 (at' H K 5)).bind λO=> (asInt .i64 (at' H K 6)).bind λn7=> (ix n4 k.length).bind λi8=> (asLst 4 (at' k i8 0)).bind λN=> (ix n3 N.length).bind λP=> (asLst 1 (at' N P 0)).bind λv11=> (asBool (at' N P 1)).bind λc12=> (asLst 1 (at' N P 2)).bind λv13=> (asBool (at' N P 3)).bind λc14=> (evF EnA n 111 [iI n7]).bind λQ=> (asLst 1 Q[0]?).bind λv16=>(asBool Q[1]?).bind λc17=>(asLst 1 Q[2]?).bind λv18=>(asBool Q[3]?).bind λc19=>(evF EnA n 116 (iL v11::kQ c12 v13 c14 v16 [.bool c17,iL v18,.bool c19])).bind λr20=> (asInt .i64 (r20[0]?)).bind λM=>
(cond c5 (cond ((IntKind.wrap .i64 (0-M))<0) ((ix D b.length).bind λR=> (asLst 1 (at' b R 0)).bind λv23=> (asBool (at' b R 1)).bind λc24=> (asLst 1 (at' b R 2)).bind λv25=> (asBool (at' b R 3)).bind λc26=> (evF EnA n 115 [iL v23,.bool c24,iL v25,.bool c26]).bind λr27=> (asInt .i64 (r27[0]?)).bind λn28=>
(cond (n28>0) (some (k26 g e a c h d f i q l o r t s p b j k v x A y z w B u [.bool false])) (cond ((IntKind.wrap .i64 (0-M))>0) ((ix D b.length).bind λS=> (asLst 1 (at' b S 0)).bind λv30=> (asBool (at' b S 1)).bind λc31=> (asLst 1 (at' b S 2)).bind λv32=> (asBool (at' b S 3)).bind λc33=> (evF EnA n 111 [iI O]).bind λT=> (asLst 1 T[0]?).bind λv35=>(asBool T[1]?).bind λc36=>(asLst 1 T[2]?).bind λv37=>(asBool T[3]?).bind λc38=>(evF EnA n 116 (iL v30::kQ c31 v32 c33 v35 [.bool c36,iL v37,.bool c38])).bind λr39=> (asInt .i64 (r39[0]?)).bind λn40=>
(cond (n40<0) (some (k26 g e a c h d f i q l o r t s p b j k v x A y z w B u [.bool false])) (q2t.l2 n [] m (k26 g e a c h d f i q l o r t s p b j k v x A y z w B u [.list 7 H,iI E,iI (IntKind.wrap .i64 (D+1))])))) (q2t.l2 n [] m (k26 g e a c h d f i q l o r t s p b j k v x A y z w B u [.list 7 H,iI E,iI (IntKind.wrap .i64 (D+1))]))))) (cond ((IntKind.wrap .i64 (0-M))>0) ((ix D b.length).bind λU=> (asLst 1 (at' b U 0)).bind λv42=> (asBool (at' b U 1)).bind λc43=> (asLst 1 (at' b U 2)).bind λv44=> (asBool (at' b U 3)).bind λc45=> (evF EnA n 111 [iI O]).bind λV=> (asLst 1 V[0]?).bind λv47=>(asBool V[1]?).bind λc48=>(asLst 1 V[2]?).bind λv49=>(asBool V[3]?).bind λc50=>(evF EnA n 116 (iL v42::kQ c43 v44 c45 v47 [.bool c48,iL v49,.bool c50])).bind λr51=> (asInt .i64 (r51[0]?)).bind λn52=>
(cond (n52<0) (some (k26 g e a c h d f i q l o r t s p b j k v x A y z w B u [.bool false])) (q2t.l2 n [] m (k26 g e a c h d f i q l o r t s p b j k v x A y z w B u [.list 7 H,iI E,iI (IntKind.wrap .i64 (D+1))])))) (q2t.l2 n [] m (k26 g e a c h d f i q l o r t s p b j k v x A y z w B u [.list 7 H,iI E,iI (IntKind.wrap .i64 (D+1))])))) (cond (M<0) ((ix D b.length).bind λW=> (asLst 1 (at' b W 0)).bind λv54=> (asBool (at' b W 1)).bind λc55=> (asLst 1 (at' b W 2)).bind λv56=> (asBool (at' b W 3)).bind λc57=> (evF EnA n 115 [iL v54,.bool c55,iL v56,.bool c57]).bind λr58=> (asInt .i64 (r58[0]?)).bind λn59=>
(cond (n59>0) (some (k26 g e a c h d f i q l o r t s p b j k v x A y z w B u [.bool false])) (cond (M>0) ((ix D b.length).bind λX=> (asLst 1 (at' b X 0)).bind λv61=> (asBool (at' b X 1)).bind λc62=> (asLst 1 (at' b X 2)).bind λv63=> (asBool (at' b X 3)).bind λc64=> (evF EnA n 111 [iI O]).bind λY=> (asLst 1 Y[0]?).bind λv66=>(asBool Y[1]?).bind λc67=>(asLst 1 Y[2]?).bind λv68=>(asBool Y[3]?).bind λc69=>(evF EnA n 116 (iL v61::kQ c62 v63 c64 v66 [.bool c67,iL v68,.bool c69])).bind λr70=> (asInt .i64 (r70[0]?)).bind λn71=>
(cond (n71<0) (some (k26 g e a c h d f i q l o r t s p b j k v x A y z w B u [.bool false])) (q2t.l2 n [] m (k26 g e a c h d f i q l o r t s p b j k v x A y z w B u [.list 7 H,iI E,iI (IntKind.wrap .i64 (D+1))])))) (q2t.l2 n [] m (k26 g e a c h d f i q l o r t s p b j k v x A y z w B u [.list 7 H,iI E,iI (IntKind.wrap .i64 (D+1))]))))) (cond (M>0) ((ix D b.length).bind λZ=> (asLst 1 (at' b Z 0)).bind λv73=> (asBool (at' b Z 1)).bind λc74=> (asLst 1 (at' b Z 2)).bind λv75=> (asBool (at' b Z 3)).bind λc76=> (evF EnA n 111 [iI O]).bind λr77=> (asLst 1 r77[0]?).bind λv78=>(asBool r77[1]?).bind λc79=>(asLst 1 r77[2]?).bind λv80=>(asBool r77[3]?).bind λc81=>(evF EnA n 116 (iL v73::kQ c74 v75 c76 v78 [.bool c79,iL v80,.bool c81])).bind λr82=> (asInt .i64 (r82[0]?)).bind λn83=>
(cond (n83<0) (some (k26 g e a c h d f i q l o r t s p b j k v x A y z w B u [.bool false])) (q2t.l2 n [] m (k26 g e a c h d f i q l o r t s p b j k v x A y z w B u [.list 7 H,iI E,iI (IntKind.wrap .i64 (D+1))])))) (q2t.l2 n [] m (k26 g e a c h d f i q l o r t s p b j k v x A y z w B u [.list 7 H,iI E,iI (IntKind.wrap .i64 (D+1))])))))) (some (k26 g e a c h d f i q l o r t s p b j k v x A y z w B u [.bool true]))):=by kernel_rfl
theorem qn3:evF EnA (n+1) 48 (k26 g e a c h d f i q l o r t s p b j k v x A y z w B u [])=q2t.l2 n [] n (k26 g e a c h d f i q l o r t s p b j k v x A y z w B u [.list 7 d,iI (d.length:Int),iI 0]):=by kernel_rfl
noncomputable def q1z.l2(n:Nat)(ms:List Nat)(m:Nat)(L:List FV):Res:=Lp EnA n 49 [1,0,1,0] ms m L
noncomputable def q1z.l5(n:Nat)(ms:List Nat)(m:Nat)(L:List FV):Res:=Lp EnA n 49 [1,0,1,0,0,1,1,0,0,1,1,0] ms m L
theorem q1z.qu:q1z.l2 n [] (m+1) (k26 g e a c h d f i q l o r t s p b j k v x A y z w B u [iI G,iI E]) =
(cond (E<G) (q1z.l5 n [m] n (k26 g e a c h d f i q l o r t s p b j k v x A y z w B u (iI E::k5 G E a (a.length:Int) 0 []))) (some (k26 g e a c h d f i q l o r t s p b j k v x A y z w B u [.bool true]))):=by kernel_rfl
theorem q1z.q1x:q1z.l5 n [A2] (m+1) (k26 g e a c h d f i q l o r t s p b j k v x A y z w B u (iI G::k5 E D B2 B4 A1 [])) =
(cond (A1<B4) ((ix A1 B2.length).bind λY=> (asInt .i64 (at' B2 Y 0)).bind λn1=> (asInt .i64 (at' B2 Y 1)).bind λn2=> (asInt .i64 (at' B2 Y 2)).bind λZ=> (ix G k.length).bind λi4=> (asLst 4 (at' k i4 0)).bind λK=> (ix n2 K.length).bind λQ=> (asLst 1 (at' K Q 0)).bind λv7=> (asBool (at' K Q 1)).bind λc8=> (asLst 1 (at' K Q 2)).bind λv9=> (asBool (at' K Q 3)).bind λc10=> (ix G k.length).bind λi11=> (asLst 4 (at' k i11 0)).bind λM=> (ix n1 M.length).bind λR=> (asLst 1 (at' M R 0)).bind λv14=> (asBool (at' M R 1)).bind λc15=> (asLst 1 (at' M R 2)).bind λv16=> (asBool (at' M R 3)).bind λc17=> (evF EnA n 116 (iL v7::kQ c8 v9 c10 v14 [.bool c15,iL v16,.bool c17])).bind λr18=> (asInt .i64 (r18[0]?)).bind λn19=>
(cond (n19<0) ((ix G j.length).bind λi20=> (asLst 4 (at' j i20 0)).bind λN=> (ix A1 N.length).bind λS=> (asLst 1 (at' N S 0)).bind λv23=> (asBool (at' N S 1)).bind λc24=> (asLst 1 (at' N S 2)).bind λv25=> (asBool (at' N S 3)).bind λc26=> (evF EnA n 111 [iI (IntKind.wrap .i64 (0-Z))]).bind λT=> (asLst 1 T[0]?).bind λv28=>(asBool T[1]?).bind λc29=>(asLst 1 T[2]?).bind λv30=>(asBool T[3]?).bind λc31=>(evF EnA n 116 (iL v23::kQ c24 v25 c26 v28 [.bool c29,iL v30,.bool c31])).bind λr32=> (asInt .i64 (r32[0]?)).bind λn33=>
(cond (n33>0) (some (k26 g e a c h d f i q l o r t s p b j k v x A y z w B u [.bool false])) (cond (n19>0) ((ix G j.length).bind λi34=> (asLst 4 (at' j i34 0)).bind λO=> (ix A1 O.length).bind λU=> (asLst 1 (at' O U 0)).bind λv37=> (asBool (at' O U 1)).bind λc38=> (asLst 1 (at' O U 2)).bind λv39=> (asBool (at' O U 3)).bind λc40=> (evF EnA n 111 [iI Z]).bind λV=> (asLst 1 V[0]?).bind λv42=>(asBool V[1]?).bind λc43=>(asLst 1 V[2]?).bind λv44=>(asBool V[3]?).bind λc45=>(evF EnA n 116 (iL v37::kQ c38 v39 c40 v42 [.bool c43,iL v44,.bool c45])).bind λr46=> (asInt .i64 (r46[0]?)).bind λn47=>
(cond (n47<0) (some (k26 g e a c h d f i q l o r t s p b j k v x A y z w B u [.bool false])) (q1z.l5 n [A2] m (k26 g e a c h d f i q l o r t s p b j k v x A y z w B u (iI G::k5 E D B2 B4 (IntKind.wrap .i64 (A1+1)) []))))) (q1z.l5 n [A2] m (k26 g e a c h d f i q l o r t s p b j k v x A y z w B u (iI G::k5 E D B2 B4 (IntKind.wrap .i64 (A1+1)) [])))))) (cond (n19>0) ((ix G j.length).bind λi48=> (asLst 4 (at' j i48 0)).bind λP=> (ix A1 P.length).bind λW=> (asLst 1 (at' P W 0)).bind λv51=> (asBool (at' P W 1)).bind λc52=> (asLst 1 (at' P W 2)).bind λv53=> (asBool (at' P W 3)).bind λc54=> (evF EnA n 111 [iI Z]).bind λX=> (asLst 1 X[0]?).bind λv56=>(asBool X[1]?).bind λc57=>(asLst 1 X[2]?).bind λv58=>(asBool X[3]?).bind λc59=>(evF EnA n 116 (iL v51::kQ c52 v53 c54 v56 [.bool c57,iL v58,.bool c59])).bind λr60=> (asInt .i64 (r60[0]?)).bind λn61=>
(cond (n61<0) (some (k26 g e a c h d f i q l o r t s p b j k v x A y z w B u [.bool false])) (q1z.l5 n [A2] m (k26 g e a c h d f i q l o r t s p b j k v x A y z w B u (iI G::k5 E D B2 B4 (IntKind.wrap .i64 (A1+1)) []))))) (q1z.l5 n [A2] m (k26 g e a c h d f i q l o r t s p b j k v x A y z w B u (iI G::k5 E D B2 B4 (IntKind.wrap .i64 (A1+1)) [])))))) (q1z.l2 n [] A2 (k26 g e a c h d f i q l o r t s p b j k v x A y z w B u [iI E,iI (IntKind.wrap .i64 (D+1))]))):=by kernel_rfl
theorem qn4:evF EnA (n+1) 49 (k26 g e a c h d f i q l o r t s p b j k v x A y z w B u [])=q1z.l2 n [] n (k26 g e a c h d f i q l o r t s p b j k v x A y z w B u [iI e,iI 0]):=by kernel_rfl
theorem qn5:evF EnA (n+1) 50 (k26 g e a c h d f i q l o r t s p b j k v x A y z w B u [])=(evF EnA n 20 [.list 8 f,iL i]).bind λK=> (asBool K[0]?).bind λM=>some (k26 g e a c h d f i q l o r t s p b j k v x A y z w B u [.bool M]):=by kernel_rfl
noncomputable def q47.l2(n:Nat)(ms:List Nat)(m:Nat)(L:List FV):Res:=Lp EnA n 51 [1,0,1,0] ms m L
theorem q47.qu:q47.l2 n [] (m+1) (k26 g e a c h d f i q l o r t s p b j k v x A y z w B u [.list 8 H,iI E,iI D]) =
(cond (D<E) ((ix D H.length).bind λK=> (asStr (at' H K 0)).bind λO=> (asInt .i64 (at' H K 1)).bind λP=> (asInt .i64 (at' H K 2)).bind λQ=> (asBool (at' H K 3)).bind λR=> (asInt .i64 (at' H K 4)).bind λS=> (asLst 1 (at' H K 5)).bind λT=> (asInt .i64 (at' H K 6)).bind λU=> (asInt .i64 (at' H K 7)).bind λV=> (ix D i.length).bind λW=> (asBool (at' i W 0)).bind λX=>
(cond (!X) (q47.l2 n [] m (k26 g e a c h d f i q l o r t s p b j k v x A y z w B u [.list 8 H,iI E,iI (IntKind.wrap .i64 (D+1))])) ((evF EnA n 117 (kB O P Q R S T U V [iL o])).bind λN=> (asStr N[0]?).bind λY=>(asInt .i64 N[1]?).bind λn13=>(evF EnA n 118 [.str Y]).bind λM=> (asLst 1 M[0]?).bind λZ=>(asBool M[1]?).bind λc16=>(asLst 1 M[2]?).bind λv17=>(asBool M[3]?).bind λc18=>(asInt .i64 M[4]?).bind λn19=>(evF EnA n 115 [iL Z,.bool c16,iL v17,.bool c18]).bind λr20=> (asInt .i64 (r20[0]?)).bind λn21=>
(cond (n21<0) (some (k26 g e a c h d f i q l o r t s p b j k v x A y z w B u [.bool false])) (q47.l2 n [] m (k26 g e a c h d f i q l o r t s p b j k v x A y z w B u [.list 8 H,iI E,iI (IntKind.wrap .i64 (D+1))])))))) (some (k26 g e a c h d f i q l o r t s p b j k v x A y z w B u [.bool true]))):=by kernel_rfl
theorem qn6:evF EnA (n+1) 51 (k26 g e a c h d f i q l o r t s p b j k v x A y z w B u [])=q47.l2 n [] n (k26 g e a c h d f i q l o r t s p b j k v x A y z w B u [.list 8 f,iI (f.length:Int),iI 0]):=by kernel_rfl
theorem qn7:evF EnA (n+1) 52 (k26 g e a c h d f i q l o r t s p b j k v x A y z w B u [])=(evF EnA n 119 [.list 7 d,iL q,.list 8 f,iL i]).bind λK=> (asStr K[0]?).bind λM=>some (k26 g e a c h d f i q l o r t s p b j k v x A y z w B u [.bool (M.toList==r.toList)]):=by kernel_rfl
theorem qn8:evF EnA (n+1) 53 (k26 g e a c h d f i q l o r t s p b j k v x A y z w B u [])=(evF EnA n 116 (iL z::kQ w B u v [.bool x,iL A,.bool y])).bind λM=> (asInt .i64 (M[0]?)).bind λK=>
(cond (K≥0) (cond (!s) (some (k26 g e a c h d f i q l o r t s p b j k v x A y z w B u [.bool true])) (some (k26 g e a c h d f i q l o r t s p b j k v x A y z w B u [.bool (K==0)]))) (some (k26 g e a c h d f i q l o r t s p b j k v x A y z w B u [.bool false]))):=by kernel_rfl
theorem qks:evF EnA (n+1) 104 [iL C,.bool A5]=(evF EnA n 105 [iL C]).bind λK=> (asLst 4 K[0]?).bind λM=>(asBool K[1]?).bind λN=>
(cond A5 (some [.bool N,.list 4 M]) (some [.bool false,.list 4 M])):=by kernel_rfl
noncomputable def q4v.l3(n:Nat)(ms:List Nat)(m:Nat)(L:List FV):Res:=Lp EnA n 105 [1,1,0,1,0] ms m L
theorem q4v.qv:q4v.l3 n [] (m+1) [.list 4 C,iL I,iI A0,iI c] =
(cond (c<A0) ((ix c I.length).bind λM=> (asStr (at' I M 0)).bind λN=> (evF EnA n 118 [.str N]).bind λK=> (asLst 1 K[0]?).bind λO=>(asBool K[1]?).bind λP=>(asLst 1 K[2]?).bind λQ=>(asBool K[3]?).bind λR=>(asInt .i64 (K[4]?)).bind λS=>
(cond (S !=0) (some [.list 4 [],.bool false]) ((ix c C.length).bind λT=> q4v.l3 n [] m [.list 4 (List.set C T (.agg [iL O,.bool P,iL Q,.bool R])),iL I,iI A0,iI (IntKind.wrap .i64 (c+1))]))) (some [.list 4 C,.bool true])):=by kernel_rfl
theorem qlk:evF EnA (n+1) 105 [iL C]=(q1m 64 (C.length:Int)).bind λK=> (bd (C.length:Int) K).bind λM=> q4v.l3 n [] n [.list 4 (List.replicate M (.agg [iL [],.bool false,iL [],.bool false]:FV)),iL C,iI (C.length:Int),iI 0]:=by kernel_rfl
theorem qn9:evF EnA (n+1) 106 [iL C,.bool A5,iL a,.bool A6,iI h,iI A8]=(evF EnA n 111 [iI h]).bind λK=> (asLst 1 K[0]?).bind λN=>(asBool K[1]?).bind λO=>(asLst 1 K[2]?).bind λP=>(asBool K[3]?).bind λQ=>(evF EnA n 116 (iL C::kQ A5 a A6 N [.bool O,iL P,.bool Q])).bind λR=> (asInt .i64 (R[0]?)).bind λS=>
(cond (S≥0) ((evF EnA n 111 [iI A8]).bind λM=> (asLst 1 M[0]?).bind λT=>(asBool M[1]?).bind λU=>(asLst 1 M[2]?).bind λV=>(asBool M[3]?).bind λW=>(evF EnA n 116 (iL C::kQ A5 a A6 T [.bool U,iL V,.bool W])).bind λX=> (asInt .i64 X[0]?).bind λY=>some [.bool (decide (Y<=0))]) (some [.bool false])):=by kernel_rfl
theorem qna:evF EnA (n+1) 107 [iL C,.bool A5,iL a,.bool A6,.ref 26 B7]=(asInt .i64 (at' [B7] 0 3)).bind λK=> (asInt .i64 (at' [B7] 0 4)).bind λM=> (evF EnA n 106 [iL C,.bool A5,iL a,.bool A6,iI K,iI M]).bind λN=> (asBool N[0]?).bind λO=>some [.ref 26 (B7),.bool (!O)]:=by kernel_rfl
noncomputable def q56.l5(n:Nat)(ms:List Nat)(m:Nat)(L:List FV):Res:=Lp EnA n 108 [1,1,1,0,1,0] ms m L
theorem q56.q1x:q56.l5 n [] (m+1) (k5 g e a c h [.list 4 d,iI B3,iI A9]) =
(cond (A9<B3) ((ix A9 d.length).bind λK=> (asLst 1 (at' d K 0)).bind λO=> (asBool (at' d K 1)).bind λP=> (asLst 1 (at' d K 2)).bind λQ=> (asBool (at' d K 3)).bind λR=> (ix A9 a.length).bind λW=> (asInt .i64 (at' a W 2)).bind λX=> (evF EnA n 111 [iI X]).bind λM=> (asLst 1 M[0]?).bind λS=>(asBool M[1]?).bind λT=>(asLst 1 M[2]?).bind λU=>(asBool M[3]?).bind λV=>(evF EnA n 116 (iL O::kQ P Q R S [.bool T,iL U,.bool V])).bind λY=> (asInt .i64 (Y[0]?)).bind λZ=>
(cond (Z>0) (some [.bool false]) ((evF EnA n 169 [iL S,.bool T,iL U,.bool V]).bind λN=> (asLst 1 N[0]?).bind λv15=>(asBool N[1]?).bind λc16=>(asLst 1 N[2]?).bind λv17=>(asBool N[3]?).bind λc18=>(evF EnA n 116 (iL O::kQ P Q R v15 [.bool c16,iL v17,.bool c18])).bind λr19=> (asInt .i64 (r19[0]?)).bind λn20=>
(cond (n20<0) (some [.bool false]) (q56.l5 n [] m (k5 g e a c h [.list 4 d,iI B3,iI (IntKind.wrap .i64 (A9+1))])))))) (some [.bool true])):=by kernel_rfl
theorem qnb:evF EnA (n+1) 108 (k5 g e a c h [iL d])=(evF EnA n 168 [iL d]).bind λK=> (asLst 4 K[0]?).bind λM=>(asBool K[1]?).bind λN=>
(cond (!N) (some [.bool false]) (cond ((d.length:Int) !=(a.length:Int)) (some [.bool false]) (q56.l5 n [] n (k5 g e a c h [.list 4 M,iI (M.length:Int),iI 0])))):=by kernel_rfl
noncomputable def q3m.l3(n:Nat)(ms:List Nat)(m:Nat)(L:List FV):Res:=Lp EnA n 110 [1,1,0,1,0] ms m L
theorem q3m.qv:q3m.l3 n [] (m+1) [.list 8 C,iI e,iL a,iL B0,iI h,iI A8] =
(cond (A8<h) ((ix A8 B0.length).bind λO=> (asBool (at' B0 O 0)).bind λP=> (ix A8 C.length).bind λK=> (asStr (at' C K 0)).bind λY=> (asInt .i64 (at' C K 1)).bind λZ=> (asInt .i64 (at' C K 2)).bind λM=> (asBool (at' C K 3)).bind λQ=> (asInt .i64 (at' C K 4)).bind λn7=> (asLst 1 (at' C K 5)).bind λN=> (asInt .i64 (at' C K 6)).bind λn9=> (asInt .i64 (at' C K 7)).bind λn10=>
(cond P (cond (0<=M) (cond (M<(a.length:Int)) (cond (0<=e) (cond (e<(N.length:Int)) ((ix M a.length).bind λR=> (asInt .i64 (at' a R 0)).bind λS=> (evF EnA n 171 [.bool Q]).bind λT=> (asInt .i64 T[0]?).bind λU=>(ix e N.length).bind λV=> (asInt .i64 (at' N V 0)).bind λW=> (ix M a.length).bind λX=> q3m.l3 n [] m [.list 8 C,iI e,iL (List.set a X (iI (IntKind.wrap .i64 (S+(IntKind.wrap .i64 (U*W)))))),iL B0,iI h,iI (IntKind.wrap .i64 (A8+1))]) (q3m.l3 n [] m [.list 8 C,iI e,iL a,iL B0,iI h,iI (IntKind.wrap .i64 (A8+1))])) (q3m.l3 n [] m [.list 8 C,iI e,iL a,iL B0,iI h,iI (IntKind.wrap .i64 (A8+1))])) (q3m.l3 n [] m [.list 8 C,iI e,iL a,iL B0,iI h,iI (IntKind.wrap .i64 (A8+1))])) (q3m.l3 n [] m [.list 8 C,iI e,iL a,iL B0,iI h,iI (IntKind.wrap .i64 (A8+1))])) (q3m.l3 n [] m [.list 8 C,iI e,iL a,iL B0,iI h,iI (IntKind.wrap .i64 (A8+1))]))) (some [iL a])):=by kernel_rfl
theorem qnc:evF EnA (n+1) 110 (k5 g e a c h [.list 8 d,iL f,iI A9])=(q1m 8 (if 0<(if 3<g then 3 else g)then(if 3<g then 3 else g)else 0)).bind λM=> (bd (if 0<(if 3<g then 3 else g)then(if 3<g then 3 else g)else 0) M).bind λN=> (bd (if(d.length:Int)<(f.length:Int)then(d.length:Int)else(f.length:Int)) f.length).bind λK=> q3m.l3 n [] n [.list 8 d,iI A9,iL (List.replicate N (iI 0:FV)),iL (List.drop 0 (List.take K f)),iI ((List.drop 0 (List.take K f)).length:Int),iI 0]:=by kernel_rfl
theorem qnd:evF EnA (n+1) 114 [iL C,.bool A5,iL a,.bool A6]=(evF EnA n 115 [iL C,.bool A5,iL a,.bool A6]).bind λK=> (asInt .i64 K[0]?).bind λM=>some [.bool (M !=0)]:=by kernel_rfl
noncomputable def q1j.l5(n:Nat)(ms:List Nat)(m:Nat)(L:List FV):Res:=Lp EnA n 119 [1,1,1,0,1,0] ms m L
noncomputable def q1j.l13(n:Nat)(ms:List Nat)(m:Nat)(L:List FV):Res:=Lp EnA n 119 [1,1,1,1,0,1,0] ms m L
noncomputable def q1j.l18(n:Nat)(ms:List Nat)(m:Nat)(L:List FV):Res:=Lp EnA n 119 [1,1,1,1,0,1,0,0,1,1,0,0,1,1,1,1,0] ms m L
theorem q1j.q1x:q1j.l5 n [] (m+1) (iL C::kQ A5 a A6 A7 [.list 8 d,iL f,.list 7 i,iI B5,iI B6]) =
(cond (B6<B5) ((ix B6 i.length).bind λK=> (asStr (at' i K 0)).bind λu1=> (asInt .i64 (at' i K 1)).bind λn2=> (asInt .i64 (at' i K 2)).bind λn3=> (asInt .i64 (at' i K 3)).bind λn4=> (asBool (at' i K 4)).bind λR=> (asInt .i64 (at' i K 5)).bind λn6=> (asInt .i64 (at' i K 6)).bind λS=> (ix B6 A7.length).bind λT=> (asStr (at' A7 T 0)).bind λU=> (evF EnA n 118 [.str U]).bind λM=> (asLst 1 M[0]?).bind λV=>(asBool M[1]?).bind λW=>(asLst 1 M[2]?).bind λX=>(asBool M[3]?).bind λY=>(asInt .i64 (M[4]?)).bind λZ=>
(cond (Z !=0) (some [.str { data:=#[] }]) ((evF EnA n 171 [.bool R]).bind λr16=> (asInt .i64 r16[0]?).bind λn17=>(evF EnA n 111 [iI (IntKind.wrap .i64 ((IntKind.wrap .i64 (0-n17))*S))]).bind λN=> (asLst 1 N[0]?).bind λv19=>(asBool N[1]?).bind λc20=>(asLst 1 N[2]?).bind λv21=>(asBool N[3]?).bind λc22=>(evF EnA n 154 (iL V::kQ W X Y v19 [.bool c20,iL v21,.bool c22])).bind λO=> (asLst 1 O[0]?).bind λv24=>(asBool O[1]?).bind λc25=>(asLst 1 O[2]?).bind λv26=>(asBool O[3]?).bind λc27=>(evF EnA n 113 (iL C::kQ A5 a A6 v24 [.bool c25,iL v26,.bool c27])).bind λP=> (asLst 1 P[0]?).bind λv29=>(asBool P[1]?).bind λc30=>(asLst 1 P[2]?).bind λv31=>(asBool P[3]?).bind λc32=>q1j.l5 n [] m (iL v29::kQ c30 v31 c32 A7 [.list 8 d,iL f,.list 7 i,iI B5,iI (IntKind.wrap .i64 (B6+1))])))) ((bd (if(d.length:Int)<(f.length:Int)then(d.length:Int)else(f.length:Int)) f.length).bind λQ=> q1j.l13 n [] n [iL C,.bool A5,iL a,.bool A6,.list 8 d,iL (List.drop 0 (List.take Q f)),iI ((List.drop 0 (List.take Q f)).length:Int),iI 0])):=by kernel_rfl
theorem q1j.qa0:q1j.l13 n [] (m+1) [iL C,.bool A5,iL a,.bool A6,.list 8 A7,iL d,iI B3,iI A9] =
(cond (A9<B3) ((ix A9 d.length).bind λN=> (asBool (at' d N 0)).bind λO=>
(cond (!O) (q1j.l13 n [] m [iL C,.bool A5,iL a,.bool A6,.list 8 A7,iL d,iI B3,iI (IntKind.wrap .i64 (A9+1))]) ((ix A9 A7.length).bind λK=> (asStr (at' A7 K 0)).bind λP=> (asInt .i64 (at' A7 K 1)).bind λQ=> (asInt .i64 (at' A7 K 2)).bind λR=> (asBool (at' A7 K 3)).bind λS=> (asInt .i64 (at' A7 K 4)).bind λT=> (asLst 1 (at' A7 K 5)).bind λM=> (asInt .i64 (at' A7 K 6)).bind λU=> (asInt .i64 (at' A7 K 7)).bind λV=> q1j.l18 n [m] n (iL C::.bool A5::iL a::.bool A6::kB P Q R S T M U V [.list 8 A7,iL d,iI B3,iI A9,iL M,iI (M.length:Int),iI 0])))) ((evF EnA n 167 [iL C,.bool A5,iL a,.bool A6]).bind λW=> (asStr W[0]?).bind λX=>some [.str X])):=by kernel_rfl
theorem q1j.q8w:q1j.l18 n [A2] (m+1) (iL C::.bool A5::iL a::.bool A6::kB C6 A8 B3 C5 B5 l C8 C9 [.list 8 C2,iL C4,iI p,iI C1,iL j,iI C0,iI B9]) =
(cond (B9<C0) ((ix B9 j.length).bind λP=> (asInt .i64 (at' j P 0)).bind λQ=> (evF EnA n 111 [iI Q]).bind λK=> (asLst 1 K[0]?).bind λR=>(asBool K[1]?).bind λS=>(asLst 1 K[2]?).bind λT=>(asBool K[3]?).bind λU=>(evF EnA n 171 [.bool C5]).bind λV=> (asInt .i64 V[0]?).bind λW=>(evF EnA n 111 [iI (IntKind.wrap .i64 ((IntKind.wrap .i64 (0-W))*B5))]).bind λM=> (asLst 1 M[0]?).bind λX=>(asBool M[1]?).bind λY=>(asLst 1 M[2]?).bind λZ=>(asBool M[3]?).bind λc13=>(evF EnA n 154 (iL R::kQ S T U X [.bool Y,iL Z,.bool c13])).bind λN=> (asLst 1 N[0]?).bind λv15=>(asBool N[1]?).bind λc16=>(asLst 1 N[2]?).bind λv17=>(asBool N[3]?).bind λc18=>(evF EnA n 113 (iL C::kQ A5 a A6 v15 [.bool c16,iL v17,.bool c18])).bind λO=> (asLst 1 O[0]?).bind λv20=>(asBool O[1]?).bind λc21=>(asLst 1 O[2]?).bind λv22=>(asBool O[3]?).bind λc23=>q1j.l18 n [A2] m (iL v20::.bool c21::iL v22::.bool c23::kB C6 A8 B3 C5 B5 l C8 C9 [.list 8 C2,iL C4,iI p,iI C1,iL j,iI C0,iI (IntKind.wrap .i64 (B9+1))])) (q1j.l13 n [] A2 [iL C,.bool A5,iL a,.bool A6,.list 8 C2,iL C4,iI p,iI (IntKind.wrap .i64 (C1+1))])):=by kernel_rfl
theorem qne:evF EnA (n+1) 119 [.list 7 C,iL I,.list 8 a,iL B0] =
(cond ((I.length:Int) !=(C.length:Int)) (some [.str { data:=#[] }]) (q1j.l5 n [] n (iL []::kQ false [] false I [.list 8 a,iL B0,.list 7 C,iI (C.length:Int),iI 0]))):=by kernel_rfl
noncomputable def q4w.l3(n:Nat)(ms:List Nat)(m:Nat)(L:List FV):Res:=Lp EnA n 168 [1,1,0,1,0] ms m L
theorem q4w.qv:q4w.l3 n [] (m+1) [.list 4 C,iL I,iI A0,iI c] =
(cond (c<A0) ((ix c I.length).bind λM=> (asStr (at' I M 0)).bind λN=> (evF EnA n 118 [.str N]).bind λK=> (asLst 1 K[0]?).bind λO=>(asBool K[1]?).bind λP=>(asLst 1 K[2]?).bind λQ=>(asBool K[3]?).bind λR=>(asInt .i64 (K[4]?)).bind λS=>
(cond (S !=0) (some [.list 4 [],.bool false]) ((ix c C.length).bind λT=> q4w.l3 n [] m [.list 4 (List.set C T (.agg [iL O,.bool P,iL Q,.bool R])),iL I,iI A0,iI (IntKind.wrap .i64 (c+1))]))) (some [.list 4 C,.bool true])):=by kernel_rfl
theorem qll:evF EnA (n+1) 168 [iL C]=(q1m 64 (C.length:Int)).bind λK=> (bd (C.length:Int) K).bind λM=> q4w.l3 n [] n [.list 4 (List.replicate M (.agg [iL [],.bool false,iL [],.bool false]:FV)),iL C,iI (C.length:Int),iI 0]:=by kernel_rfl
theorem qhk:evF EnA (n+1) 171 [.bool C7] =
(cond C7 (some [iI (-1)]) (some [iI 1])):=by kernel_rfl
noncomputable def q27.l2(n:Nat)(ms:List Nat)(m:Nat)(L:List FV):Res:=Lp EnA n 100046 [1,0,1,0] ms m L
noncomputable def q27.l9(n:Nat)(ms:List Nat)(m:Nat)(L:List FV):Res:=Lp EnA n 100046 [1,1,1,0,1,0] ms m L
theorem q27.qu:q27.l2 n [] (m+1) [.ref 26 A3,.list 7 I,iI A0,iI c] =
(cond (c<A0) ((ix c I.length).bind λK=> (asStr (at' I K 0)).bind λW=> (asInt .i64 (at' I K 1)).bind λX=> (asInt .i64 (at' I K 2)).bind λY=> (asInt .i64 (at' I K 3)).bind λZ=> (asBool (at' I K 4)).bind λc5=> (asInt .i64 (at' I K 5)).bind λO=> (asInt .i64 (at' I K 6)).bind λn7=> (asLst 4 (at' [A3] 0 15)).bind λM=> (ix c M.length).bind λN=> (asLst 1 (at' M N 0)).bind λP=> (asBool (at' M N 1)).bind λQ=> (asLst 1 (at' M N 2)).bind λR=> (asBool (at' M N 3)).bind λS=> (evF EnA n 106 [iL P,.bool Q,iL R,.bool S,iI 0,iI O]).bind λT=> (asBool T[0]?).bind λU=>
(cond (!U) (some [.bool false]) (q27.l2 n [] m [.ref 26 (A3),.list 7 I,iI A0,iI (IntKind.wrap .i64 (c+1))]))) ((asInt .i64 (at' [A3] 0 1)).bind λV=> q27.l9 n [] n [.ref 26 (A3),iI V,iI 0])):=by kernel_rfl
theorem q27.q3h:q27.l9 n [] (m+1) [.ref 26 A3,iI e,iI A0] =
(cond (A0<e) ((asInt .i64 (at' [A3] 0 0)).bind λO=> (asInt .i64 (at' [A3] 0 1)).bind λP=> (asLst 3 (at' [A3] 0 2)).bind λQ=> (asInt .i64 (at' [A3] 0 3)).bind λR=> (asInt .i64 (at' [A3] 0 4)).bind λS=> (asLst 1 (at' [A3] 0 9)).bind λK=> (ix A0 K.length).bind λT=> (asLst 1 (at' K T 0)).bind λU=> (evF EnA n 108 (k5 O P Q R S [iL U])).bind λV=> (asBool V[0]?).bind λW=>
(cond (!W) (some [.bool false]) ((asLst 1 (at' [A3] 0 17)).bind λM=> (ix A0 M.length).bind λX=> (asLst 4 (at' M X 0)).bind λY=> (evF EnA n 100109 [.list 4 Y,.ref 26 (A3)]).bind λN=> (asRef 26 N[0]?).bind λZ=>(asBool N[1]?).bind λc15=>
(cond c15 (some [.bool false]) (q27.l9 n [] m [.ref 26 (hd1 Z),iI e,iI (IntKind.wrap .i64 (A0+1))]))))) (some [.bool true])):=by kernel_rfl
theorem qnf:evF EnA (n+1) 100046 [.ref 26 A3]=(asLst 7 (at' [A3] 0 5)).bind λK=> q27.l2 n [] n [.ref 26 (A3),.list 7 K,iI (K.length:Int),iI 0]:=by kernel_rfl
theorem qng:evF EnA (n+1) 100109 [.list 4 C,.ref 26 B8]=(evF EnA n 100170 [.list 4 C,.ref 26 (B8)]).bind λK=> (asRef 26 K[0]?).bind λM=>(asInt .i64 K[1]?).bind λN=>some [.ref 26 (hd1 M),.bool (decide (N≥0))]:=by kernel_rfl
noncomputable def q57.l2(n:Nat)(ms:List Nat)(m:Nat)(L:List FV):Res:=Lp EnA n 100170 [1,0,1,0] ms m L
theorem q57.qu:q57.l2 n [] (m+1) [.ref 26 A3,.list 4 I,iI A0,iI c] =
(cond (c<A0) ((ix c I.length).bind λK=> (asLst 1 (at' I K 0)).bind λO=> (asBool (at' I K 1)).bind λP=> (asLst 1 (at' I K 2)).bind λQ=> (asBool (at' I K 3)).bind λR=> (evF EnA n 107 [iL O,.bool P,iL Q,.bool R,.ref 26 (A3)]).bind λM=> (asRef 26 M[0]?).bind λN=>(asBool M[1]?).bind λS=>
(cond S (some [.ref 26 (hd1 N),iI c]) (q57.l2 n [] m [.ref 26 (hd1 N),.list 4 I,iI A0,iI (IntKind.wrap .i64 (c+1))]))) (some [.ref 26 (A3),iI (-1)])):=by kernel_rfl
theorem qnh:evF EnA (n+1) 100170 [.list 4 C,.ref 26 B8]=q57.l2 n [] n [.ref 26 (B8),.list 4 C,iI (C.length:Int),iI 0]:=by kernel_rfl
theorem qni(n:Nat)(C:List FV)  : evF EnA (n+1) 200109 [.list 4 C,.raw (Go.Value.func (Go.Fn.func 114) #[] #[])]=(evF EnA n 200170 [.list 4 C,.raw (Go.Value.func (Go.Fn.func 114) #[] #[])]).bind λK=> (asInt .i64 K[0]?).bind λM=>some [.bool (decide (M≥0))]:=by kernel_rfl
noncomputable def q58.l2(n:Nat)(ms:List Nat)(m:Nat)(L:List FV):Res:=Lp EnA n 200170 [1,0,1,0] ms m L
theorem q58.qu(n m:Nat)(C:List FV)  (A0:Int) (c:Int):q58.l2 n [] (m+1) [.list 4 C,.raw (Go.Value.func (Go.Fn.func 114) #[] #[]),iI A0,iI c] =
(cond (c<A0) ((ix c C.length).bind λK=> (asLst 1 (at' C K 0)).bind λM=> (asBool (at' C K 1)).bind λN=> (asLst 1 (at' C K 2)).bind λO=> (asBool (at' C K 3)).bind λP=> (evF EnA n 114 [iL M,.bool N,iL O,.bool P]).bind λQ=> (asBool Q[0]?).bind λR=>
(cond R (some [iI c]) (q58.l2 n [] m [.list 4 C,.raw (Go.Value.func (Go.Fn.func 114) #[] #[]),iI A0,iI (IntKind.wrap .i64 (c+1))]))) (some [iI (-1)])):=by kernel_rfl
theorem qnj(n:Nat)(C:List FV)  : evF EnA (n+1) 200170 [.list 4 C,.raw (Go.Value.func (Go.Fn.func 114) #[] #[])]=q58.l2 n [] n [.list 4 C,.raw (Go.Value.func (Go.Fn.func 114) #[] #[]),iI (C.length:Int),iI 0]:=by kernel_rfl
end Rf
end
section
/- Made by a program of this work: what each function comes to, one step of it; by the kernel. -/
set_option maxRecDepth 100000
set_option maxHeartbeats 4000000
namespace Rf
open Go
end Rf
end
