/- Merged: EnvA EqOrd EqPcs EqRcs. -/
import Derived.Test.YtcpnpoagpnkblaaGreatDoorNMP
import Derived.Test.YtcpnpoagpnkblaaGreatDoorNMG
import Derived.KernelRfl
set_option linter.unusedVariables false
set_option linter.unusedSimpArgs false
set_option maxRecDepth 100000
set_option maxHeartbeats 4000000
section
namespace Rf
open Go
def EvO(E:Env)(f:FuncId)(L R:List FV):Prop:=∃n0,∀n,n0<=n->evF E n f L=some R
theorem EvO.det{E:Env}{f:FuncId}{L R R':List FV}(h:EvO E f L R)(h':EvO E f L R'):R=R':=by
 obtain⟨n,hn⟩:=h;obtain⟨m,hm⟩:=h';exact Ed ((hn (max n m) (Nat.le_max_left ..)).symm.trans (hm _ (Nat.le_max_right ..)))
theorem EvO.run{E:Env}{f:FuncId}{L R:List FV}(h:EvO E f L R):∃n,evF E n f L=some R:=let ⟨n,hn⟩:=h;⟨n,hn n (Ak n)⟩
open Classical in
noncomputable def limO(E:Env)(f:FuncId)(L:List FV):Option (List FV):=if h:∃R,EvO E f L R then some h.choose else none
theorem q1l{E:Env}{f:FuncId}{L R:List FV}(h:EvO E f L R):limO E f L=some R:=by
 unfold limO;rw[BZ ⟨R,h⟩];exact congrArg some (EvO.det (Exists.choose_spec (⟨R,h⟩:∃R,EvO E f L R)) h)
theorem limO_some{E:Env}{f:FuncId}{L R:List FV}(h:limO E f L=some R):EvO E f L R:=by
 unfold limO at h;split at h
 ·rename_i hx;cases h;exact hx.choose_spec
 ·cases h
theorem q92{E:Env}(hE:q14 E)(hX:q68 E){f:FuncId}{i:FnI}{L L':List FV}(hi:E.fn f=some i)(h:limO E f L=some L'):Enters E.P (vb f)/\q2w E.P (vb f) i L L':=by
 obtain⟨n,hn⟩:=(limO_some h).run;exact evF_ok hE hX n f i L L' hi hn
abbrev XT:=List (Nat×(List FV->Option (List FV)))
noncomputable def lims(E:Env)(fs:List Nat):XT:=fs.map λf=>(f,limO E f)
theorem q93{E:Env}{f:Nat}{g:List FV->Option (List FV)}:∀ {fs:List Nat},lookN f (lims E fs)=some g->g=limO E f
 |[],h=>by simp[lims,lookN]at h
 |k::fs,h=>by
  have h:(bif Nat.beq k f then some (limO E k)else lookN f (lims E fs))=some g:=h;cases hb:Nat.beq k f with
  |true =>
   rw[hb,Ac]at h;rw[<- Aw hb];exact(Ed h).symm
  |false =>
   rw[hb,Ab]at h;exact q93 h
theorem qct{α:Type}{f:Nat}{x:α}:∀ {l r:List (Nat×α)},lookN f (l++r)=some x->lookN f l=some x\/lookN f r=some x
 |[],r,h=>.inr h
 |(k,y)::l,r,h=>by
  have h:(bif Nat.beq k f then some y else lookN f (l++r))=some x:=h;have e:lookN f ((k,y)::l)=(bif Nat.beq k f then some y else lookN f l):=rfl;rw[e];cases hb:Nat.beq k f with
  |true=>rw[hb]at h;exact .inl h
  |false=>rw[hb]at h;exact qct h
def numF:List Nat:=[111,112,113,115,116,118,154,167,169,83,
 84,85,12,92,37,38,32,22,13,
 14,39,24,79,43,25,26,
 117,61,20,21]
noncomputable def extN:XT:=lims En numF
noncomputable def EnA:Env:=⟨Go.Proofs.Tryz.prog,fcT,tyT,fnT,λf=>lookN f extN⟩
theorem envOkA:q14 EnA:=⟨λ_ _ h=>qco qcp h,λ_ _ h=>Av.1 qcq _ (q90 h),λ_ _ h=>qcr qcs h,Checked.mixed Go.Proofs.Tryz.checked⟩
theorem extA_ok(hX:q68 En):q68 EnA:=by
 intro f g i L L' hf hi hL;rw[q93 hf]at hL;exact q92 envOk hX hi hL
end Rf
end
namespace Rf
open Go
noncomputable section
section
variable (n m:Nat)
variable (w D u:Bool)
variable (a s h x c k q o z:List FV)
variable (y:Nat)
variable (p v C:ByteArray)
variable (d b g e f r i j t l A B:Int)
def q1z.l4(n:Nat):=Lp EnA n 18 [1,1,0,1,0]
def q1z.l11(n:Nat):=Lp EnA n 18 [1,1,1,1,0,1,0]
def q1z.l19(n:Nat):=Lp EnA n 18 [1,1,1,1,1,1,0,1,0]
theorem q1z.q13:q1z.l4 n [] (m+1) (k7 d b h e f c k [.list 7 q,iI t,iI l]) =
(cond (l<t) ((ix l q.length).bind λE=> (asStr (at' q E 0)).bind λS=> (asInt .i64 (at' q E 1)).bind λT=> (asInt .i64 (at' q E 2)).bind λF=> (asInt .i64 (at' q E 3)).bind λG=> (asBool (at' q E 4)).bind λU=> (asInt .i64 (at' q E 5)).bind λH=> (asInt .i64 (at' q E 6)).bind λI=> (evF EnA n 64 [iI F,iI 0,iI (w6 (d-1))]).bind λJ=> (asBool J[0]?).bind λK=>
(cond (!K) (some [.bool false]) ((evF EnA n 64 [iI G,iI 0,iI (w6 (b-1))]).bind λM=> (asBool M[0]?).bind λN=>
(cond (!N) (some [.bool false]) ((evF EnA n 64 [iI H,iI 1,iI 1000]).bind λO=> (asBool O[0]?).bind λP=>
(cond (!P) (some [.bool false]) ((evF EnA n 64 [iI I,iI e,iI f]).bind λQ=> (asBool Q[0]?).bind λR=>
(cond (!R) (some [.bool false]) (q1z.l4 n [] m (k7 d b h e f c k [.list 7 q,iI t,iI (w6 (l+1))])))))))))) (q1z.l11 n [] n (k7 d b h e f c k [.raw (Go.Value.func (Go.Fn.func 65) #[] #[]),.list 8 k,iI (k.length:Int),iI 0]))):=by kernel_rfl
theorem q1z.q84(n m:Nat)(d:Int)(b:Int)(h:List FV)(e:Int)(f:Int)(c:List FV)(k:List FV)  (o:List FV) (l:Int) (x10:Int):q1z.l11 n [] (m+1) (k7 d b h e f c k [.raw (Go.Value.func (Go.Fn.func 65) #[] #[]),.list 8 o,iI l,iI x10]) =
(cond (x10<l) ((ix x10 o.length).bind λE=> (asStr (at' o E 0)).bind λV=> (asInt .i64 (at' o E 1)).bind λW=> (asInt .i64 (at' o E 2)).bind λG=> (asBool (at' o E 3)).bind λX=> (asInt .i64 (at' o E 4)).bind λH=> (asLst 1 (at' o E 5)).bind λF=> (asInt .i64 (at' o E 6)).bind λY=> (asInt .i64 (at' o E 7)).bind λZ=> (evF EnA n 64 [iI G,iI 0,iI (w6 (d-1))]).bind λI=> (asBool I[0]?).bind λJ=>
(cond (!J) (some [.bool false]) ((evF EnA n 64 [iI H,iI e,iI f]).bind λK=> (asBool K[0]?).bind λM=>
(cond (!M) (some [.bool false]) (cond ((F.length:Int) !=b) (some [.bool false]) ((evF EnA n 66 [iL F,.raw (Go.Value.func (Go.Fn.func 65) #[] #[])]).bind λN=> (asBool N[0]?).bind λO=>
(cond O (some [.bool false]) ((evF EnA n 67 [iL F]).bind λP=> (asInt .i64 (P[0]?)).bind λQ=>
(cond (Q==0) (some [.bool false]) (q1z.l11 n [] m (k7 d b h e f c k [.raw (Go.Value.func (Go.Fn.func 65) #[] #[]),.list 8 o,iI l,iI (w6 (x10+1))]))))))))))) ((evF EnA n 68 [.list 7 c,.raw (Go.Value.func (Go.Fn.func 69) #[] #[])]).bind λR=> (asBool R[0]?).bind λS=>
(cond (!S) (some [.bool false]) ((evF EnA n 70 [.list 8 k,.raw (Go.Value.func (Go.Fn.func 71) #[] #[])]).bind λT=> (asBool T[0]?).bind λU=>
(cond (!U) (some [.bool false]) (q1z.l19 n [] n [.list 8 k,iI (k.length:Int),iI 0])))))):=by kernel_rfl
theorem q1z.q4j:q1z.l19 n [] (m+1) [.list 8 a,iI b,iI g] =
(cond (g<b) ((evF EnA n 72 [.list 8 a,iI g]).bind λE=> (asBool E[0]?).bind λF=>
(cond (!F) (some [.bool false]) (q1z.l19 n [] m [.list 8 a,iI b,iI (w6 (g+1))]))) (some [.bool true])):=by kernel_rfl
theorem qsf:evF EnA (n+1) 18 (k7 d b h e f c k [])=(evF EnA n 63 (k5 d b h e f [])).bind λE=> (asInt .i64 (E[0]?)).bind λF=>
(cond (F !=0) (some [.bool false]) (cond ((c.length:Int)>32) (some [.bool false]) (cond ((k.length:Int)>12) (some [.bool false]) (q1z.l4 n [] n (k7 d b h e f c k [.list 7 c,iI (c.length:Int),iI 0]))))):=by kernel_rfl
def q1f.l4(n:Nat):=Lp EnA n 19 [1,1,0,1,0]
def q1f.l12(n:Nat):=Lp EnA n 19 [1,1,1,0,1,0]
def q1f.l19(n:Nat):=Lp EnA n 19 [1,1,1,0,1,0,0,1,0,0,1,1,1,0,1,0]
theorem q1f.q13:q1f.l4 n [] (m+1) (k7 d b h e f c k [iI j]) =
(cond (j<(c.length:Int)) ((ix j c.length).bind λE=> (asStr (at' c E 0)).bind λF=> (asInt .i64 (at' c E 1)).bind λH=> (asInt .i64 (at' c E 2)).bind λI=> (asInt .i64 (at' c E 3)).bind λJ=> (asBool (at' c E 4)).bind λc5=> (asInt .i64 (at' c E 5)).bind λK=> (asInt .i64 (at' c E 6)).bind λM=> (evF EnA n 74 [iI I,iI 0,iI (w6 (d-1))]).bind λN=> (asBool N[0]?).bind λO=>
(cond (!O) (some [.bool false]) ((evF EnA n 74 [iI J,iI 0,iI (w6 (b-1))]).bind λP=> (asBool P[0]?).bind λQ=>
(cond (!Q) (some [.bool false]) ((evF EnA n 74 [iI K,iI 1,iI 1000]).bind λR=> (asBool R[0]?).bind λS=>
(cond (!S) (some [.bool false]) ((evF EnA n 74 [iI M,iI e,iI f]).bind λT=> (asBool T[0]?).bind λU=>
(cond (!U) (some [.bool false]) (cond (j>0) ((ix (w6 (j-1)) c.length).bind λV=> (asStr (at' c V 0)).bind λG=>
(cond (!((Go.Op.bytesLess G.toList F.toList)||(G.toList==F.toList))) (some [.bool false]) ((ix (w6 (j-1)) c.length).bind λW=> (asStr (at' c W 0)).bind λX=>
(cond (X.toList==F.toList) ((ix (w6 (j-1)) c.length).bind λY=> (asInt .i64 (at' c Y 1)).bind λZ=>
(cond (Z≥H) (some [.bool false]) (q1f.l4 n [] m (k7 d b h e f c k [iI (w6 (j+1))])))) (q1f.l4 n [] m (k7 d b h e f c k [iI (w6 (j+1))])))))) (q1f.l4 n [] m (k7 d b h e f c k [iI (w6 (j+1))]))))))))))) (q1f.l12 n [] n (k5 d b h e f [.list 8 k,iI 0]))):=by kernel_rfl
theorem q1f.q58:q1f.l12 n [] (m+1) (k5 d b h e f [.list 8 c,iI i]) =
(cond (i<(c.length:Int)) ((ix i c.length).bind λE=> (asStr (at' c E 0)).bind λF=> (asInt .i64 (at' c E 1)).bind λG=> (asInt .i64 (at' c E 2)).bind λI=> (asBool (at' c E 3)).bind λJ=> (asInt .i64 (at' c E 4)).bind λK=> (asLst 1 (at' c E 5)).bind λM=> (asInt .i64 (at' c E 6)).bind λN=> (asInt .i64 (at' c E 7)).bind λO=> (evF EnA n 75 (k5 d b h e f (kB F G I J K M N O []))).bind λP=> (asBool P[0]?).bind λQ=>
(cond (!Q) (some [.bool false]) (cond (i>0) ((ix (w6 (i-1)) c.length).bind λR=> (asStr (at' c R 0)).bind λH=>
(cond (!((Go.Op.bytesLess H.toList F.toList)||(H.toList==F.toList))) (some [.bool false]) ((ix (w6 (i-1)) c.length).bind λS=> (asStr (at' c S 0)).bind λT=>
(cond (T.toList==F.toList) ((ix (w6 (i-1)) c.length).bind λU=> (asInt .i64 (at' c U 1)).bind λV=>
(cond (V≥G) (some [.bool false]) (q1f.l19 n [m] n (k5 d b h e f [.list 8 c,iI i,iI i,iI 0])))) (q1f.l19 n [m] n (k5 d b h e f [.list 8 c,iI i,iI i,iI 0])))))) (q1f.l19 n [m] n (k5 d b h e f [.list 8 c,iI i,iI i,iI 0]))))) (some [.bool true])):=by kernel_rfl
theorem q1f.q4j:q1f.l19 n [y] (m+1) (k5 d b h e f [.list 8 c,iI i,iI j,iI t]) =
(cond (j≥0) (cond (t>(c.length:Int)) (some [.bool false]) ((evF EnA n 76 [.list 8 c,iI j]).bind λE=> (asInt .i64 E[0]?).bind λF=>q1f.l19 n [y] m (k5 d b h e f [.list 8 c,iI i,iI F,iI (w6 (t+1))]))) (cond (j==(-2)) (some [.bool false]) (q1f.l12 n [] y (k5 d b h e f [.list 8 c,iI (w6 (i+1))])))):=by kernel_rfl
theorem qrm:evF EnA (n+1) 19 (k7 d b h e f c k [])=(evF EnA n 73 (k5 d b h e f [])).bind λE=> (asInt .i64 (E[0]?)).bind λF=>
(cond (F !=0) (some [.bool false]) (cond ((c.length:Int)>32) (some [.bool false]) (cond ((k.length:Int)>12) (some [.bool false]) (q1f.l4 n [] n (k7 d b h e f c k [iI 0]))))):=by kernel_rfl
theorem qru:evF EnA (n+1) 63 (k5 d b h e f [])=(evF EnA n 126 [iI d,iI 1,iI 3]).bind λG=> (asBool G[0]?).bind λH=>
(cond (!H) (some [iI 140]) ((evF EnA n 126 [iI b,iI 1,iI 3]).bind λI=> (asBool I[0]?).bind λJ=>
(cond (!J) (some [iI 140]) (cond ((h.length:Int)>3) (some [iI 140]) ((evF EnA n 127 (.list 3 h::k5 d b h e f [])).bind λE=> (asInt .i64 E[0]?).bind λP=>(asInt .i64 E[1]?).bind λQ=>(asLst 3 E[2]?).bind λR=>(asInt .i64 E[3]?).bind λK=>(asInt .i64 E[4]?).bind λF=>(asBool E[5]?).bind λM=>
(cond M (some [iI 140]) ((evF EnA n 126 [iI K,iI (-100000),iI F]).bind λN=> (asBool N[0]?).bind λO=>
(cond (!O) (some [iI 140]) (cond (F>100000) (some [iI 140]) (some [iI 0])))))))))):=by kernel_rfl
theorem qrw:evF EnA (n+1) 65 [iI d]=(evF EnA n 64 [iI d,iI 0,iI 1000]).bind λE=> (asBool E[0]?).bind λF=>some [.bool (!F)]:=by kernel_rfl
theorem qrx(n:Nat)(a:List FV)  : evF EnA (n+1) 66 [iL a,.raw (Go.Value.func (Go.Fn.func 65) #[] #[])]=(evF EnA n 128 [iL a,.raw (Go.Value.func (Go.Fn.func 65) #[] #[])]).bind λE=> (asInt .i64 E[0]?).bind λF=>some [.bool (decide (F≥0))]:=by kernel_rfl
def q9o.l5(n:Nat):=Lp EnA n 67 [1,1,1,0,1,0]
theorem q9o.q1h:q9o.l5 n [] (m+1) [iL a,iI b,iI g] =
(cond (g<(a.length:Int)) ((ix g a.length).bind λF=> (asInt .i64 (at' a F 0)).bind λE=> q9o.l5 n [] m [iL a,iI (if b<E then E else b),iI (w6 (g+1))]) (some [iI b])):=by kernel_rfl
theorem qrz:evF EnA (n+1) 67 [iL a] =
(cond ((a.length:Int)<1) none ((ix 0 a.length).bind λE=> (asInt .i64 (at' a E 0)).bind λF=> q9o.l5 n [] n [iL a,iI F,iI 1])):=by kernel_rfl
def q7w.l2(n:Nat):=Lp EnA n 68 [1,0,1,0]
theorem q7w.qt(n m:Nat)(a:List FV)  (g:Int):q7w.l2 n [] (m+1) [.list 7 a,.raw (Go.Value.func (Go.Fn.func 69) #[] #[]),iI g] =
(cond (g<(a.length:Int)) ((ix (w6 (g-1)) a.length).bind λE=> (asStr (at' a E 0)).bind λI=> (asInt .i64 (at' a E 1)).bind λJ=> (asInt .i64 (at' a E 2)).bind λK=> (asInt .i64 (at' a E 3)).bind λM=> (asBool (at' a E 4)).bind λN=> (asInt .i64 (at' a E 5)).bind λO=> (asInt .i64 (at' a E 6)).bind λP=> (evF EnA n 69 (kS I J K M N O P [])).bind λG=> (asStr G[0]?).bind λQ=>(asInt .i64 G[1]?).bind λR=>(ix g a.length).bind λF=> (asStr (at' a F 0)).bind λS=> (asInt .i64 (at' a F 1)).bind λT=> (asInt .i64 (at' a F 2)).bind λU=> (asInt .i64 (at' a F 3)).bind λV=> (asBool (at' a F 4)).bind λW=> (asInt .i64 (at' a F 5)).bind λX=> (asInt .i64 (at' a F 6)).bind λY=> (evF EnA n 69 (kS S T U V W X Y [])).bind λH=> (asStr H[0]?).bind λZ=>(asInt .i64 H[1]?).bind λn21=>(evF EnA n 130 [.str Q,.str Z]).bind λr22=> (asInt .i64 r22[0]?).bind λn23=>(evF EnA n 131 [iI R,iI n21]).bind λr24=> (asInt .i64 r24[0]?).bind λn25=>(evF EnA n 129 [iL (qb 2 (iI 0) [(0,(iI n23)),(1,(iI n25))])]).bind λr26=> (asInt .i64 (r26[0]?)).bind λn27=>
(cond (n27≥0) (some [.bool false]) (q7w.l2 n [] m [.list 7 a,.raw (Go.Value.func (Go.Fn.func 69) #[] #[]),iI (w6 (g+1))]))) (some [.bool true])):=by kernel_rfl
theorem qs6(n:Nat)(a:List FV)  : evF EnA (n+1) 68 [.list 7 a,.raw (Go.Value.func (Go.Fn.func 69) #[] #[])]=q7w.l2 n [] n [.list 7 a,.raw (Go.Value.func (Go.Fn.func 69) #[] #[]),iI 1]:=by kernel_rfl
theorem qkn:evF EnA (n+1) 69 (kS p b g e D r i [])=some [.str p,iI b]:=by kernel_rfl
def q8k.l2(n:Nat):=Lp EnA n 70 [1,0,1,0]
theorem q8k.qt(n m:Nat)(a:List FV)  (g:Int):q8k.l2 n [] (m+1) [.list 8 a,.raw (Go.Value.func (Go.Fn.func 71) #[] #[]),iI g] =
(cond (g<(a.length:Int)) ((ix (w6 (g-1)) a.length).bind λE=> (asStr (at' a E 0)).bind λI=> (asInt .i64 (at' a E 1)).bind λJ=> (asInt .i64 (at' a E 2)).bind λK=> (asBool (at' a E 3)).bind λM=> (asInt .i64 (at' a E 4)).bind λN=> (asLst 1 (at' a E 5)).bind λO=> (asInt .i64 (at' a E 6)).bind λP=> (asInt .i64 (at' a E 7)).bind λQ=> (evF EnA n 71 (kB I J K M N O P Q [])).bind λG=> (asStr G[0]?).bind λR=>(asInt .i64 G[1]?).bind λS=>(ix g a.length).bind λF=> (asStr (at' a F 0)).bind λT=> (asInt .i64 (at' a F 1)).bind λU=> (asInt .i64 (at' a F 2)).bind λV=> (asBool (at' a F 3)).bind λW=> (asInt .i64 (at' a F 4)).bind λX=> (asLst 1 (at' a F 5)).bind λY=> (asInt .i64 (at' a F 6)).bind λZ=> (asInt .i64 (at' a F 7)).bind λn20=> (evF EnA n 71 (kB T U V W X Y Z n20 [])).bind λH=> (asStr H[0]?).bind λu22=>(asInt .i64 H[1]?).bind λn23=>(evF EnA n 130 [.str R,.str u22]).bind λr24=> (asInt .i64 r24[0]?).bind λn25=>(evF EnA n 131 [iI S,iI n23]).bind λr26=> (asInt .i64 r26[0]?).bind λn27=>(evF EnA n 129 [iL (qb 2 (iI 0) [(0,(iI n25)),(1,(iI n27))])]).bind λr28=> (asInt .i64 (r28[0]?)).bind λn29=>
(cond (n29≥0) (some [.bool false]) (q8k.l2 n [] m [.list 8 a,.raw (Go.Value.func (Go.Fn.func 71) #[] #[]),iI (w6 (g+1))]))) (some [.bool true])):=by kernel_rfl
theorem qs7(n:Nat)(a:List FV)  : evF EnA (n+1) 70 [.list 8 a,.raw (Go.Value.func (Go.Fn.func 71) #[] #[])]=q8k.l2 n [] n [.list 8 a,.raw (Go.Value.func (Go.Fn.func 71) #[] #[]),iI 1]:=by kernel_rfl
theorem qko:evF EnA (n+1) 71 (kB p b g w f c i j [])=some [.str p,iI b]:=by kernel_rfl
def q9p.l2(n:Nat):=Lp EnA n 72 [1,0,1,0]
theorem q9p.qt:q9p.l2 n [] (m+1) [.list 8 a,iI b,iI g,iI e] =
(cond (e<g) ((ix b a.length).bind λF=> (asInt .i64 (at' a F 6)).bind λG=>
(cond (G<=0) (some [.bool true]) ((evF EnA n 132 [.list 8 a,iI b]).bind λH=> (asInt .i64 (H[0]?)).bind λE=>
(cond (E<0) (some [.bool false]) (cond (E==b) (some [.bool false]) (q9p.l2 n [] m [.list 8 a,iI E,iI g,iI (w6 (e+1))])))))) (some [.bool false])):=by kernel_rfl
theorem qse:evF EnA (n+1) 72 [.list 8 a,iI b]=q9p.l2 n [] n [.list 8 a,iI b,iI (w6 ((a.length:Int)+1)),iI 0]:=by kernel_rfl
def q6t.l4(n:Nat):=Lp EnA n 73 [1,1,0,1,0]
theorem q6t.q13:q6t.l4 n [] (m+1) (k5 d b h e f [iI r]) =
(cond (r<(h.length:Int)) ((ix r h.length).bind λE=> (asInt .i64 (at' h E 0)).bind λF=> (asInt .i64 (at' h E 1)).bind λG=> (asInt .i64 (at' h E 2)).bind λH=> (evF EnA n 133 [iI F,iI 0,iI (w6 (d-1))]).bind λI=> (asBool I[0]?).bind λJ=>
(cond (!J) (some [iI 140]) ((evF EnA n 133 [iI G,iI 0,iI (w6 (d-1))]).bind λK=> (asBool K[0]?).bind λM=>
(cond (!M) (some [iI 140]) (cond (F==G) (some [iI 140]) ((evF EnA n 133 [iI H,iI 0,iI 1000]).bind λN=> (asBool N[0]?).bind λO=>
(cond (!O) (some [iI 140]) (q6t.l4 n [] m (k5 d b h e f [iI (w6 (r+1))]))))))))) (some [iI 0])):=by kernel_rfl
theorem qrv:evF EnA (n+1) 73 (k5 d b h e f [])=(evF EnA n 133 [iI d,iI 1,iI 3]).bind λE=> (asBool E[0]?).bind λF=>
(cond (!F) (some [iI 140]) ((evF EnA n 133 [iI b,iI 1,iI 3]).bind λG=> (asBool G[0]?).bind λH=>
(cond (!H) (some [iI 140]) (cond ((h.length:Int)>3) (some [iI 140]) (cond (e<(-100000)) (some [iI 140]) (cond (e>f) (some [iI 140]) (cond (f>100000) (some [iI 140]) (q6t.l4 n [] n (k5 d b h e f [iI 0]))))))))):=by kernel_rfl
theorem qrp:evF EnA (n+1) 74 [iI d,iI b,iI g] =
(cond (d≥b) (some [.bool (decide (d<=g))]) (some [.bool false])):=by kernel_rfl
def q7u.l5(n:Nat):=Lp EnA n 75 [1,1,1,0,1,0]
theorem q7u.q1h:q7u.l5 n [] (m+1) (kB p b g w f c i j [.bool u,iI l]) =
(cond (l<(c.length:Int)) ((ix l c.length).bind λE=> (asInt .i64 (at' c E 0)).bind λF=> (evF EnA n 74 [iI F,iI 0,iI 1000]).bind λG=> (asBool G[0]?).bind λH=>
(cond (!H) (some [.bool false]) (cond u (q7u.l5 n [] m (kB p b g w f c i j [.bool true,iI (w6 (l+1))])) ((ix l c.length).bind λI=> (asInt .i64 (at' c I 0)).bind λJ=> q7u.l5 n [] m (kB p b g w f c i j [.bool (decide (J>0)),iI (w6 (l+1))]))))) (some [.bool u])):=by kernel_rfl
theorem qs0:evF EnA (n+1) 75 (k5 d b h e f (kB C i j u l z A B []))=(evF EnA n 74 [iI j,iI 0,iI (w6 (d-1))]).bind λE=> (asBool E[0]?).bind λF=>
(cond (!F) (some [.bool false]) ((evF EnA n 74 [iI l,iI e,iI f]).bind λG=> (asBool G[0]?).bind λH=>
(cond (!H) (some [.bool false]) (cond ((z.length:Int) !=b) (some [.bool false]) (q7u.l5 n [] n (kB C i j u l z A B [.bool false,iI 0])))))):=by kernel_rfl
def q6r.l4(n:Nat):=Lp EnA n 76 [1,1,0,1,0]
theorem q6r.q13:q6r.l4 n [] (m+1) [.list 8 a,iI b,iI g] =
(cond (g<(a.length:Int)) (cond (g !=b) ((ix g a.length).bind λE=> (asStr (at' a E 0)).bind λF=> (ix b a.length).bind λG=> (asStr (at' a G 0)).bind λH=>
(cond (F.toList==H.toList) ((ix g a.length).bind λI=> (asInt .i64 (at' a I 1)).bind λJ=> (ix b a.length).bind λK=> (asInt .i64 (at' a K 6)).bind λM=>
(cond (J==M) (some [iI g]) (q6r.l4 n [] m [.list 8 a,iI b,iI (w6 (g+1))]))) (q6r.l4 n [] m [.list 8 a,iI b,iI (w6 (g+1))]))) (q6r.l4 n [] m [.list 8 a,iI b,iI (w6 (g+1))])) (some [iI (-2)])):=by kernel_rfl
theorem qrg:evF EnA (n+1) 76 [.list 8 a,iI b]=(ix b a.length).bind λE=> (asInt .i64 (at' a E 6)).bind λF=>
(cond (F<=0) (some [iI (-1)]) (q6r.l4 n [] n [.list 8 a,iI b,iI 0])):=by kernel_rfl
theorem qrq:evF EnA (n+1) 125 (iI d::iI b::iI g::k5 e f c i j [])=(evF EnA n 126 [iI d,iI 0,iI (w6 (e-1))]).bind λE=> (asBool E[0]?).bind λF=>
(cond (!F) (some (k5 e f c i j [.bool true])) ((evF EnA n 126 [iI b,iI 0,iI (w6 (e-1))]).bind λG=> (asBool G[0]?).bind λH=>
(cond (!H) (some (k5 e f c i j [.bool true])) (cond (d==b) (some (k5 e f c i j [.bool true])) ((evF EnA n 126 [iI g,iI 0,iI 1000]).bind λI=> (asBool I[0]?).bind λJ=>some (k5 e f c i j [.bool (!J)])))))):=by kernel_rfl
theorem qrn:evF EnA (n+1) 126 [iI d,iI b,iI g] =
(cond (b<=d) (some [.bool (decide (d<=g))]) (some [.bool false])):=by kernel_rfl
theorem qrs:evF EnA (n+1) 127 (.list 3 a::k5 b g x f r [])=(evF EnA n 179 (.list 3 a::k5 b g x f r [])).bind λE=> (asInt .i64 E[0]?).bind λF=>(asInt .i64 E[1]?).bind λG=>(asLst 3 E[2]?).bind λH=>(asInt .i64 E[3]?).bind λI=>(asInt .i64 E[4]?).bind λJ=>(asInt .i64 E[5]?).bind λK=>some (k5 F G H I J [.bool (decide (K≥0))]):=by kernel_rfl
def q6u.l2(n:Nat):=Lp EnA n 128 [1,0,1,0]
theorem q6u.qt(n m:Nat)(a:List FV)  (g:Int) (e:Int):q6u.l2 n [] (m+1) [iL a,.raw (Go.Value.func (Go.Fn.func 65) #[] #[]),iI g,iI e] =
(cond (e<g) ((ix e a.length).bind λE=> (asInt .i64 (at' a E 0)).bind λF=> (evF EnA n 65 [iI F]).bind λG=> (asBool G[0]?).bind λH=>
(cond H (some [iI e]) (q6u.l2 n [] m [iL a,.raw (Go.Value.func (Go.Fn.func 65) #[] #[]),iI g,iI (w6 (e+1))]))) (some [iI (-1)])):=by kernel_rfl
theorem qry(n:Nat)(a:List FV)  : evF EnA (n+1) 128 [iL a,.raw (Go.Value.func (Go.Fn.func 65) #[] #[])]=q6u.l2 n [] n [iL a,.raw (Go.Value.func (Go.Fn.func 65) #[] #[]),iI (a.length:Int),iI 0]:=by kernel_rfl
def q7v.l3(n:Nat):=Lp EnA n 129 [1,1,0,1,0]
theorem q7v.qq:q7v.l3 n [] (m+1) [iI d,iL s,iI g,iI e] =
(cond (e<g) ((ix e s.length).bind λF=> (asInt .i64 (at' s F 0)).bind λE=>
(cond (E !=d) (some [iI E]) (q7v.l3 n [] m [iI d,iL s,iI g,iI (w6 (e+1))]))) (some [iI d])):=by kernel_rfl
theorem qs5:evF EnA (n+1) 129 [iL a]=q7v.l3 n [] n [iI 0,iL a,iI (a.length:Int),iI 0]:=by kernel_rfl
theorem qs1:evF EnA (n+1) 130 [.str p,.str v]=(evF EnA n 180 [.str p]).bind λF=> (asBool F[0]?).bind λG=>(evF EnA n 180 [.str v]).bind λH=> (asBool H[0]?).bind λE=>
(cond G (cond E (some [iI 0]) (some [iI (-1)])) (cond E (some [iI 1]) (cond (Go.Op.bytesLess p.toList v.toList) (some [iI (-1)]) (cond (!((Go.Op.bytesLess p.toList v.toList)||(p.toList==v.toList))) (some [iI 1]) (some [iI 0]))))):=by kernel_rfl
theorem qs3:evF EnA (n+1) 131 [iI d,iI b]=(evF EnA n 181 [iI d]).bind λF=> (asBool F[0]?).bind λG=>(evF EnA n 181 [iI b]).bind λH=> (asBool H[0]?).bind λE=>
(cond G (cond E (some [iI 0]) (some [iI (-1)])) (cond E (some [iI 1]) (cond (d<b) (some [iI (-1)]) (cond (d>b) (some [iI 1]) (some [iI 0]))))):=by kernel_rfl
theorem qsa:evF EnA (n+1) 132 [.list 8 a,iI b]=(evF EnA n 182 [.list 8 a,.list 8 a,iI b]).bind λE=> (asLst 8 E[0]?).bind λG=>(asInt .i64 E[1]?).bind λH=>(asInt .i64 E[2]?).bind λF=>some [iI F]:=by kernel_rfl
theorem qro:evF EnA (n+1) 133 [iI d,iI b,iI g] =
(cond (d≥b) (some [.bool (decide (d<=g))]) (some [.bool false])):=by kernel_rfl
def q7t.l2(n:Nat):=Lp EnA n 179 [1,0,1,0]
theorem q7t.qt:q7t.l2 n [] (m+1) (k5 d b h e f [.list 3 c,iI i,iI j]) =
(cond (j<i) ((ix j c.length).bind λF=> (asInt .i64 (at' c F 0)).bind λM=> (asInt .i64 (at' c F 1)).bind λN=> (asInt .i64 (at' c F 2)).bind λO=> (evF EnA n 125 (iI M::iI N::iI O::k5 d b h e f [])).bind λE=> (asInt .i64 E[0]?).bind λG=>(asInt .i64 E[1]?).bind λH=>(asLst 3 E[2]?).bind λI=>(asInt .i64 E[3]?).bind λJ=>(asInt .i64 E[4]?).bind λK=>(asBool E[5]?).bind λP=>
(cond P (some (k5 G H I J K [iI j])) (q7t.l2 n [] m (k5 G H I J K [.list 3 c,iI i,iI (w6 (j+1))])))) (some (k5 d b h e f [iI (-1)]))):=by kernel_rfl
theorem qrr:evF EnA (n+1) 179 (.list 3 a::k5 b g x f r [])=q7t.l2 n [] n (k5 b g x f r [.list 3 a,iI (a.length:Int),iI 0]):=by kernel_rfl
theorem qs2:evF EnA (n+1) 180 [.str p]=some [.bool (!(p.toList==p.toList))]:=by kernel_rfl
theorem qs4:evF EnA (n+1) 181 [iI d]=some [.bool (d !=d)]:=by kernel_rfl
def q6v.l2(n:Nat):=Lp EnA n 182 [1,0,1,0]
theorem q6v.qt:q6v.l2 n [] (m+1) [.list 8 a,iI b,.list 8 h,iI e,iI f] =
(cond (f<e) ((ix f h.length).bind λE=> (asStr (at' h E 0)).bind λI=> (asInt .i64 (at' h E 1)).bind λJ=> (asInt .i64 (at' h E 2)).bind λK=> (asBool (at' h E 3)).bind λM=> (asInt .i64 (at' h E 4)).bind λN=> (asLst 1 (at' h E 5)).bind λO=> (asInt .i64 (at' h E 6)).bind λP=> (asInt .i64 (at' h E 7)).bind λQ=> (evF EnA n 183 (kB I J K M N O P Q [.list 8 a,iI b])).bind λF=> (asLst 8 F[0]?).bind λG=>(asInt .i64 F[1]?).bind λH=>(asBool F[2]?).bind λR=>
(cond R (some [.list 8 G,iI H,iI f]) (q6v.l2 n [] m [.list 8 G,iI H,.list 8 h,iI e,iI (w6 (f+1))]))) (some [.list 8 a,iI b,iI (-1)])):=by kernel_rfl
theorem qsb:evF EnA (n+1) 182 [.list 8 a,.list 8 s,iI g]=q6v.l2 n [] n [.list 8 s,iI g,.list 8 a,iI (a.length:Int),iI 0]:=by kernel_rfl
theorem qs8:evF EnA (n+1) 183 (kB p b g w f c i j [.list 8 o,iI l])=(ix l o.length).bind λE=> (asStr (at' o E 0)).bind λF=>
(cond (p.toList==F.toList) ((ix l o.length).bind λG=> (asInt .i64 (at' o G 6)).bind λH=> some [.list 8 o,iI l,.bool (b==H)]) (some [.list 8 o,iI l,.bool false])):=by kernel_rfl
end
section
variable (n m:Nat)
variable (C6 A5 A6 C4 s v A B z C3:Bool)
variable (C I a B0 A7 d f i q k o C2 C5 b j l w x u y H F B2 J:List FV)
variable (A2:Nat)
variable (C8 r t:ByteArray)
variable (g e A0 c h A8 B3 A9 B4 B6 C9 C7 p C0 C1 B8 G E D B1 B5 A1 A4:Int)
variable (A3 B7 B9:FV)
def q5r.l4(n:Nat):=Lp EnA n 44 [1,1,0,1,0]
theorem q5r.q13:q5r.l4 n [] (m+1) (k26 g e a c h d f i q k o r t s p b j l w v x A u B y z [iI G,iI E]) =
(cond (E<G) ((ix E k.length).bind λK=> (asLst 1 (at' k K 0)).bind λM=>
(cond ((M.length:Int) !=(a.length:Int)) (some (k26 g e a c h d f i q k o r t s p b j l w v x A u B y z [.bool false])) ((ix E o.length).bind λN=> (asLst 1 (at' o N 0)).bind λO=>
(cond ((O.length:Int) !=g) (some (k26 g e a c h d f i q k o r t s p b j l w v x A u B y z [.bool false])) (q5r.l4 n [] m (k26 g e a c h d f i q k o r t s p b j l w v x A u B y z [iI G,iI (w6 (E+1))])))))) (some (k26 g e a c h d f i q k o r t s p b j l w v x A u B y z [.bool true]))):=by kernel_rfl
theorem qmv:evF EnA (n+1) 44 (k26 g e a c h d f i q k o r t s p b j l w v x A u B y z [])=(evF EnA n 18 (k7 g e a c h d f [])).bind λK=> (asBool K[0]?).bind λM=>
(cond (!M) (some (k26 g e a c h d f i q k o r t s p b j l w v x A u B y z [.bool false])) (cond ((i.length:Int) !=(f.length:Int)) (some (k26 g e a c h d f i q k o r t s p b j l w v x A u B y z [.bool false])) (cond ((q.length:Int) !=(d.length:Int)) (some (k26 g e a c h d f i q k o r t s p b j l w v x A u B y z [.bool false])) (cond ((k.length:Int) !=e) (some (k26 g e a c h d f i q k o r t s p b j l w v x A u B y z [.bool false])) (cond ((o.length:Int) !=e) (some (k26 g e a c h d f i q k o r t s p b j l w v x A u B y z [.bool false])) (cond (p<0) (some (k26 g e a c h d f i q k o r t s p b j l w v x A u B y z [.bool false])) (q5r.l4 n [] n (k26 g e a c h d f i q k o r t s p b j l w v x A u B y z [iI e,iI 0])))))))):=by kernel_rfl
def q8n.l5(n:Nat):=Lp EnA n 45 [1,1,1,1,0,1,0]
theorem q8n.q1h:q8n.l5 n [] (m+1) (k26 g e a c h d f i q k o r t s p b j l w v x A u B y z [.bool C3,iI E,iI D]) =
(cond (D<E) ((ix D k.length).bind λU=> (asLst 1 (at' k U 0)).bind λV=> (evF EnA n 104 [iL V,.bool C3]).bind λP=> (asBool P[0]?).bind λW=>(asLst 4 (P[1]?)).bind λQ=>
(cond (Nat.ble (j.length+(qb 1 (.list 4 []) [(0,(.list 4 Q))]).length) 5864062014805) ((ix D o.length).bind λX=> (asLst 1 (at' o X 0)).bind λY=> (evF EnA n 104 [iL Y,.bool W]).bind λR=> (asBool R[0]?).bind λZ=>(asLst 4 (R[1]?)).bind λS=>
(cond (Nat.ble (l.length+(qb 1 (.list 4 []) [(0,(.list 4 S))]).length) 5864062014805) (q8n.l5 n [] m (k26 g e a c h d f i q k o r t s p b (j++(qb 1 (.list 4 []) [(0,(.list 4 Q))])) (l++(qb 1 (.list 4 []) [(0,(.list 4 S))])) w v x A u B y z [.bool Z,iI E,iI (w6 (D+1))])) none)) none)) ((evF EnA n 104 [iL (qb 2 (.str { data:=#[] }) [(0,(.str r)),(1,(.str t))]),.bool C3]).bind λT=> (asBool T[0]?).bind λO=>(asLst 4 (T[1]?)).bind λK=>
(cond O ((ix 0 K.length).bind λM=> (asLst 1 (at' K M 0)).bind λv14=> (asBool (at' K M 1)).bind λc15=> (asLst 1 (at' K M 2)).bind λv16=> (asBool (at' K M 3)).bind λc17=> (ix 1 K.length).bind λN=> (asLst 1 (at' K N 0)).bind λv19=> (asBool (at' K N 1)).bind λc20=> (asLst 1 (at' K N 2)).bind λv21=> (asBool (at' K N 3)).bind λc22=> some (k26 g e a c h d f i q k o r t s p b j l v14 c15 v16 c17 v19 c20 v21 c22 [.bool O])) (some (k26 g e a c h d f i q k o r t s p b j l w v x A u B y z [.bool O]))))):=by kernel_rfl
theorem qmx:evF EnA (n+1) 45 (k26 g e a c h d f i q k o r t s p b j l w v x A u B y z [])=(evF EnA n 104 [iL q,.bool true]).bind λK=> (asBool K[0]?).bind λM=>(asLst 4 K[1]?).bind λN=>q8n.l5 n [] n (k26 g e a c h d f i q k o r t s p N j l w v x A u B y z [.bool M,iI e,iI 0]):=by kernel_rfl
def q18.l2(n:Nat):=Lp EnA n 47 [1,0,1,0]
def q18.l6(n:Nat):=Lp EnA n 47 [1,0,1,0,0,1,1,0,0,1,1,0,1,0]
def q18.l11(n:Nat):=Lp EnA n 47 [1,0,1,0,0,1,1,0,0,1,1,1,0,1,0]
def q18.l19(n:Nat):=Lp EnA n 47 [1,0,1,0,0,1,1,0,0,1,1,1,1,0,1,0]
theorem q18.qt:q18.l2 n [] (m+1) (k26 g e a c h d f i q k o r t s p b j l w v x A u B y z [iI G,iI E]) =
(cond (E<G) ((q1p 64 g).bind λM=> (bd g M).bind λN=> (evF EnA n 110 (k5 g e a c h [.list 8 f,iL i,iI E])).bind λO=> (asLst 1 O[0]?).bind λK=>q18.l6 n [m] n (k26 g e a c h d f i q k o r t s p b j l w v x A u B y z [iI E,.list 4 (List.replicate N (.agg [iL [],.bool false,iL [],.bool false]:FV)),iI G,iI E,iL K,iI (K.length:Int),iI 0])) (some (k26 g e a c h d f i q k o r t s p b j l w v x A u B y z [.bool true]))):=by kernel_rfl
theorem q18.q2n:q18.l6 n [A2] (m+1) (k26 g e a c h d f i q k o r t s p b j l w v x A u B y z [iI G,.list 4 F,iI D,iI B1,iL J,iI A1,iI A4]) =
(cond (A4<A1) ((ix A4 J.length).bind λM=> (asInt .i64 (at' J M 0)).bind λN=> (evF EnA n 111 [iI N]).bind λK=> (asLst 1 K[0]?).bind λO=>(asBool K[1]?).bind λP=>(asLst 1 K[2]?).bind λQ=>(asBool K[3]?).bind λR=>(ix A4 F.length).bind λS=> q18.l6 n [A2] m (k26 g e a c h d f i q k o r t s p b j l w v x A u B y z [iI G,.list 4 (List.set F S (.agg [iL O,.bool P,iL Q,.bool R])),iI D,iI B1,iL J,iI A1,iI (w6 (A4+1))])) (q18.l11 n [A2] n (k26 g e a c h d f i q k o r t s p b j l w v x A u B y z [iI G,.list 4 F,iI D,iI B1,.list 7 d,iI (d.length:Int),iI 0]))):=by kernel_rfl
theorem q18.q84:q18.l11 n [A2] (m+1) (k26 g e a c h d f i q k o r t s p b j l w v x A u B y z [iI G,.list 4 F,iI D,iI B1,.list 7 J,iI A1,iI A4]) =
(cond (A4<A1) ((ix A4 J.length).bind λK=> (asStr (at' J K 0)).bind λu1=> (asInt .i64 (at' J K 1)).bind λn2=> (asInt .i64 (at' J K 2)).bind λM=> (asInt .i64 (at' J K 3)).bind λT=> (asBool (at' J K 4)).bind λU=> (asInt .i64 (at' J K 5)).bind λn6=> (asInt .i64 (at' J K 6)).bind λn7=>
(cond (T !=G) (q18.l11 n [A2] m (k26 g e a c h d f i q k o r t s p b j l w v x A u B y z [iI G,.list 4 F,iI D,iI B1,.list 7 J,iI A1,iI (w6 (A4+1))])) (cond U ((ix M F.length).bind λN=> (asLst 1 (at' F N 0)).bind λV=> (asBool (at' F N 1)).bind λW=> (asLst 1 (at' F N 2)).bind λX=> (asBool (at' F N 3)).bind λY=> (ix A4 b.length).bind λO=> (asLst 1 (at' b O 0)).bind λZ=> (asBool (at' b O 1)).bind λc15=> (asLst 1 (at' b O 2)).bind λv16=> (asBool (at' b O 3)).bind λc17=> (evF EnA n 112 (iL V::kQ W X Y Z [.bool c15,iL v16,.bool c17])).bind λP=> (asLst 1 P[0]?).bind λv19=>(asBool P[1]?).bind λc20=>(asLst 1 P[2]?).bind λv21=>(asBool P[3]?).bind λc22=>(ix M F.length).bind λi23=> q18.l11 n [A2] m (k26 g e a c h d f i q k o r t s p b j l w v x A u B y z [iI G,.list 4 (List.set F i23 (.agg [iL v19,.bool c20,iL v21,.bool c22])),iI D,iI B1,.list 7 J,iI A1,iI (w6 (A4+1))])) ((ix M F.length).bind λQ=> (asLst 1 (at' F Q 0)).bind λv25=> (asBool (at' F Q 1)).bind λc26=> (asLst 1 (at' F Q 2)).bind λv27=> (asBool (at' F Q 3)).bind λc28=> (ix A4 b.length).bind λR=> (asLst 1 (at' b R 0)).bind λv30=> (asBool (at' b R 1)).bind λc31=> (asLst 1 (at' b R 2)).bind λv32=> (asBool (at' b R 3)).bind λc33=> (evF EnA n 113 (iL v25::kQ c26 v27 c28 v30 [.bool c31,iL v32,.bool c33])).bind λS=> (asLst 1 S[0]?).bind λv35=>(asBool S[1]?).bind λc36=>(asLst 1 S[2]?).bind λv37=>(asBool S[3]?).bind λc38=>(ix M F.length).bind λi39=> q18.l11 n [A2] m (k26 g e a c h d f i q k o r t s p b j l w v x A u B y z [iI G,.list 4 (List.set F i39 (.agg [iL v35,.bool c36,iL v37,.bool c38])),iI D,iI B1,.list 7 J,iI A1,iI (w6 (A4+1))]))))) (q18.l19 n [A2] n (k26 g e a c h d f i q k o r t s p b j l w v x A u B y z (iI G::.list 4 F::k5 D B1 a (a.length:Int) 0 [])))):=by kernel_rfl
theorem q18.q4j:q18.l19 n [A2] (m+1) (k26 g e a c h d f i q k o r t s p b j l w v x A u B y z (iI G::.list 4 F::k5 D B1 J A1 A4 [])) =
(cond (A4<A1) ((ix A4 J.length).bind λY=> (asInt .i64 (at' J Y 0)).bind λZ=> (asInt .i64 (at' J Y 1)).bind λn2=> (asInt .i64 (at' J Y 2)).bind λn3=> (ix Z F.length).bind λS=> (asLst 1 (at' F S 0)).bind λv5=> (asBool (at' F S 1)).bind λc6=> (asLst 1 (at' F S 2)).bind λv7=> (asBool (at' F S 3)).bind λc8=> (ix G j.length).bind λi9=> (asLst 4 (at' j i9 0)).bind λQ=> (ix A4 Q.length).bind λT=> (asLst 1 (at' Q T 0)).bind λv12=> (asBool (at' Q T 1)).bind λc13=> (asLst 1 (at' Q T 2)).bind λv14=> (asBool (at' Q T 3)).bind λc15=> (evF EnA n 112 (iL v5::kQ c6 v7 c8 v12 [.bool c13,iL v14,.bool c15])).bind λU=> (asLst 1 U[0]?).bind λK=>(asBool U[1]?).bind λM=>(asLst 1 U[2]?).bind λN=>(asBool U[3]?).bind λO=>(ix Z F.length).bind λP=> (ix n2 (List.set F P (.agg [iL K,.bool M,iL N,.bool O])).length).bind λV=> (asLst 1 (at' (List.set F P (.agg [iL K,.bool M,iL N,.bool O])) V 0)).bind λv23=> (asBool (at' (List.set F P (.agg [iL K,.bool M,iL N,.bool O])) V 1)).bind λc24=> (asLst 1 (at' (List.set F P (.agg [iL K,.bool M,iL N,.bool O])) V 2)).bind λv25=> (asBool (at' (List.set F P (.agg [iL K,.bool M,iL N,.bool O])) V 3)).bind λc26=> (ix G j.length).bind λi27=> (asLst 4 (at' j i27 0)).bind λR=> (ix A4 R.length).bind λW=> (asLst 1 (at' R W 0)).bind λv30=> (asBool (at' R W 1)).bind λc31=> (asLst 1 (at' R W 2)).bind λv32=> (asBool (at' R W 3)).bind λc33=> (evF EnA n 113 (iL v23::kQ c24 v25 c26 v30 [.bool c31,iL v32,.bool c33])).bind λX=> (asLst 1 X[0]?).bind λv35=>(asBool X[1]?).bind λc36=>(asLst 1 X[2]?).bind λv37=>(asBool X[3]?).bind λc38=>(ix n2 (List.set F P (.agg [iL K,.bool M,iL N,.bool O])).length).bind λi39=> q18.l19 n [A2] m (k26 g e a c h d f i q k o r t s p b j l w v x A u B y z (iI G::.list 4 (List.set (List.set F P (.agg [iL K,.bool M,iL N,.bool O])) i39 (.agg [iL v35,.bool c36,iL v37,.bool c38]))::k5 D B1 J A1 (w6 (A4+1)) []))) ((evF EnA n 200109 [.list 4 F,.raw (Go.Value.func (Go.Fn.func 114) #[] #[])]).bind λr40=> (asBool r40[0]?).bind λc41=>
(cond c41 (some (k26 g e a c h d f i q k o r t s p b j l w v x A u B y z [.bool false])) (q18.l2 n [] A2 (k26 g e a c h d f i q k o r t s p b j l w v x A u B y z [iI D,iI (w6 (B1+1))]))))):=by kernel_rfl
theorem qpu:evF EnA (n+1) 47 (k26 g e a c h d f i q k o r t s p b j l w v x A u B y z [])=q18.l2 n [] n (k26 g e a c h d f i q k o r t s p b j l w v x A u B y z [iI e,iI 0]):=by kernel_rfl
def q3g.l2(n:Nat):=Lp EnA n 48 [1,0,1,0]
theorem q3g.qt:q3g.l2 n [] (m+1) (k26 g e a c h d f i q k o r t s p b j l w v x A u B y z [.list 7 H,iI E,iI D]) =
(cond (D<E) ((ix D H.length).bind λK=> (asStr (at' H K 0)).bind λu1=> (asInt .i64 (at' H K 1)).bind λn2=> (asInt .i64 (at' H K 2)).bind λn3=> (asInt .i64 (at' H K 3)).bind λn4=> (asBool (at' H K 4)).bind λc5=> (asInt .i64 (at' H K 5)).bind λO=> (asInt .i64 (at' H K 6)).bind λn7=> (ix n4 l.length).bind λi8=> (asLst 4 (at' l i8 0)).bind λN=> (ix n3 N.length).bind λP=> (asLst 1 (at' N P 0)).bind λv11=> (asBool (at' N P 1)).bind λc12=> (asLst 1 (at' N P 2)).bind λv13=> (asBool (at' N P 3)).bind λc14=> (evF EnA n 111 [iI n7]).bind λQ=> (asLst 1 Q[0]?).bind λv16=>(asBool Q[1]?).bind λc17=>(asLst 1 Q[2]?).bind λv18=>(asBool Q[3]?).bind λc19=>(evF EnA n 116 (iL v11::kQ c12 v13 c14 v16 [.bool c17,iL v18,.bool c19])).bind λr20=> (asInt .i64 (r20[0]?)).bind λM=>
(cond c5 (cond ((w6 (0-M))<0) ((ix D b.length).bind λR=> (asLst 1 (at' b R 0)).bind λv23=> (asBool (at' b R 1)).bind λc24=> (asLst 1 (at' b R 2)).bind λv25=> (asBool (at' b R 3)).bind λc26=> (evF EnA n 115 [iL v23,.bool c24,iL v25,.bool c26]).bind λr27=> (asInt .i64 (r27[0]?)).bind λn28=>
(cond (n28>0) (some (k26 g e a c h d f i q k o r t s p b j l w v x A u B y z [.bool false])) (cond ((w6 (0-M))>0) ((ix D b.length).bind λS=> (asLst 1 (at' b S 0)).bind λv30=> (asBool (at' b S 1)).bind λc31=> (asLst 1 (at' b S 2)).bind λv32=> (asBool (at' b S 3)).bind λc33=> (evF EnA n 111 [iI O]).bind λT=> (asLst 1 T[0]?).bind λv35=>(asBool T[1]?).bind λc36=>(asLst 1 T[2]?).bind λv37=>(asBool T[3]?).bind λc38=>(evF EnA n 116 (iL v30::kQ c31 v32 c33 v35 [.bool c36,iL v37,.bool c38])).bind λr39=> (asInt .i64 (r39[0]?)).bind λn40=>
(cond (n40<0) (some (k26 g e a c h d f i q k o r t s p b j l w v x A u B y z [.bool false])) (q3g.l2 n [] m (k26 g e a c h d f i q k o r t s p b j l w v x A u B y z [.list 7 H,iI E,iI (w6 (D+1))])))) (q3g.l2 n [] m (k26 g e a c h d f i q k o r t s p b j l w v x A u B y z [.list 7 H,iI E,iI (w6 (D+1))]))))) (cond ((w6 (0-M))>0) ((ix D b.length).bind λU=> (asLst 1 (at' b U 0)).bind λv42=> (asBool (at' b U 1)).bind λc43=> (asLst 1 (at' b U 2)).bind λv44=> (asBool (at' b U 3)).bind λc45=> (evF EnA n 111 [iI O]).bind λV=> (asLst 1 V[0]?).bind λv47=>(asBool V[1]?).bind λc48=>(asLst 1 V[2]?).bind λv49=>(asBool V[3]?).bind λc50=>(evF EnA n 116 (iL v42::kQ c43 v44 c45 v47 [.bool c48,iL v49,.bool c50])).bind λr51=> (asInt .i64 (r51[0]?)).bind λn52=>
(cond (n52<0) (some (k26 g e a c h d f i q k o r t s p b j l w v x A u B y z [.bool false])) (q3g.l2 n [] m (k26 g e a c h d f i q k o r t s p b j l w v x A u B y z [.list 7 H,iI E,iI (w6 (D+1))])))) (q3g.l2 n [] m (k26 g e a c h d f i q k o r t s p b j l w v x A u B y z [.list 7 H,iI E,iI (w6 (D+1))])))) (cond (M<0) ((ix D b.length).bind λW=> (asLst 1 (at' b W 0)).bind λv54=> (asBool (at' b W 1)).bind λc55=> (asLst 1 (at' b W 2)).bind λv56=> (asBool (at' b W 3)).bind λc57=> (evF EnA n 115 [iL v54,.bool c55,iL v56,.bool c57]).bind λr58=> (asInt .i64 (r58[0]?)).bind λn59=>
(cond (n59>0) (some (k26 g e a c h d f i q k o r t s p b j l w v x A u B y z [.bool false])) (cond (M>0) ((ix D b.length).bind λX=> (asLst 1 (at' b X 0)).bind λv61=> (asBool (at' b X 1)).bind λc62=> (asLst 1 (at' b X 2)).bind λv63=> (asBool (at' b X 3)).bind λc64=> (evF EnA n 111 [iI O]).bind λY=> (asLst 1 Y[0]?).bind λv66=>(asBool Y[1]?).bind λc67=>(asLst 1 Y[2]?).bind λv68=>(asBool Y[3]?).bind λc69=>(evF EnA n 116 (iL v61::kQ c62 v63 c64 v66 [.bool c67,iL v68,.bool c69])).bind λr70=> (asInt .i64 (r70[0]?)).bind λn71=>
(cond (n71<0) (some (k26 g e a c h d f i q k o r t s p b j l w v x A u B y z [.bool false])) (q3g.l2 n [] m (k26 g e a c h d f i q k o r t s p b j l w v x A u B y z [.list 7 H,iI E,iI (w6 (D+1))])))) (q3g.l2 n [] m (k26 g e a c h d f i q k o r t s p b j l w v x A u B y z [.list 7 H,iI E,iI (w6 (D+1))]))))) (cond (M>0) ((ix D b.length).bind λZ=> (asLst 1 (at' b Z 0)).bind λv73=> (asBool (at' b Z 1)).bind λc74=> (asLst 1 (at' b Z 2)).bind λv75=> (asBool (at' b Z 3)).bind λc76=> (evF EnA n 111 [iI O]).bind λr77=> (asLst 1 r77[0]?).bind λv78=>(asBool r77[1]?).bind λc79=>(asLst 1 r77[2]?).bind λv80=>(asBool r77[3]?).bind λc81=>(evF EnA n 116 (iL v73::kQ c74 v75 c76 v78 [.bool c79,iL v80,.bool c81])).bind λr82=> (asInt .i64 (r82[0]?)).bind λn83=>
(cond (n83<0) (some (k26 g e a c h d f i q k o r t s p b j l w v x A u B y z [.bool false])) (q3g.l2 n [] m (k26 g e a c h d f i q k o r t s p b j l w v x A u B y z [.list 7 H,iI E,iI (w6 (D+1))])))) (q3g.l2 n [] m (k26 g e a c h d f i q k o r t s p b j l w v x A u B y z [.list 7 H,iI E,iI (w6 (D+1))])))))) (some (k26 g e a c h d f i q k o r t s p b j l w v x A u B y z [.bool true]))):=by kernel_rfl
theorem qpv:evF EnA (n+1) 48 (k26 g e a c h d f i q k o r t s p b j l w v x A u B y z [])=q3g.l2 n [] n (k26 g e a c h d f i q k o r t s p b j l w v x A u B y z [.list 7 d,iI (d.length:Int),iI 0]):=by kernel_rfl
def q2g.l2(n:Nat):=Lp EnA n 49 [1,0,1,0]
def q2g.l5(n:Nat):=Lp EnA n 49 [1,0,1,0,0,1,1,0,0,1,1,0]
theorem q2g.qt:q2g.l2 n [] (m+1) (k26 g e a c h d f i q k o r t s p b j l w v x A u B y z [iI G,iI E]) =
(cond (E<G) (q2g.l5 n [m] n (k26 g e a c h d f i q k o r t s p b j l w v x A u B y z (iI E::k5 G E a (a.length:Int) 0 []))) (some (k26 g e a c h d f i q k o r t s p b j l w v x A u B y z [.bool true]))):=by kernel_rfl
theorem q2g.q1h:q2g.l5 n [A2] (m+1) (k26 g e a c h d f i q k o r t s p b j l w v x A u B y z (iI G::k5 E D B2 B5 A1 [])) =
(cond (A1<B5) ((ix A1 B2.length).bind λY=> (asInt .i64 (at' B2 Y 0)).bind λn1=> (asInt .i64 (at' B2 Y 1)).bind λn2=> (asInt .i64 (at' B2 Y 2)).bind λZ=> (ix G l.length).bind λi4=> (asLst 4 (at' l i4 0)).bind λK=> (ix n2 K.length).bind λQ=> (asLst 1 (at' K Q 0)).bind λv7=> (asBool (at' K Q 1)).bind λc8=> (asLst 1 (at' K Q 2)).bind λv9=> (asBool (at' K Q 3)).bind λc10=> (ix G l.length).bind λi11=> (asLst 4 (at' l i11 0)).bind λM=> (ix n1 M.length).bind λR=> (asLst 1 (at' M R 0)).bind λv14=> (asBool (at' M R 1)).bind λc15=> (asLst 1 (at' M R 2)).bind λv16=> (asBool (at' M R 3)).bind λc17=> (evF EnA n 116 (iL v7::kQ c8 v9 c10 v14 [.bool c15,iL v16,.bool c17])).bind λr18=> (asInt .i64 (r18[0]?)).bind λn19=>
(cond (n19<0) ((ix G j.length).bind λi20=> (asLst 4 (at' j i20 0)).bind λN=> (ix A1 N.length).bind λS=> (asLst 1 (at' N S 0)).bind λv23=> (asBool (at' N S 1)).bind λc24=> (asLst 1 (at' N S 2)).bind λv25=> (asBool (at' N S 3)).bind λc26=> (evF EnA n 111 [iI (w6 (0-Z))]).bind λT=> (asLst 1 T[0]?).bind λv28=>(asBool T[1]?).bind λc29=>(asLst 1 T[2]?).bind λv30=>(asBool T[3]?).bind λc31=>(evF EnA n 116 (iL v23::kQ c24 v25 c26 v28 [.bool c29,iL v30,.bool c31])).bind λr32=> (asInt .i64 (r32[0]?)).bind λn33=>
(cond (n33>0) (some (k26 g e a c h d f i q k o r t s p b j l w v x A u B y z [.bool false])) (cond (n19>0) ((ix G j.length).bind λi34=> (asLst 4 (at' j i34 0)).bind λO=> (ix A1 O.length).bind λU=> (asLst 1 (at' O U 0)).bind λv37=> (asBool (at' O U 1)).bind λc38=> (asLst 1 (at' O U 2)).bind λv39=> (asBool (at' O U 3)).bind λc40=> (evF EnA n 111 [iI Z]).bind λV=> (asLst 1 V[0]?).bind λv42=>(asBool V[1]?).bind λc43=>(asLst 1 V[2]?).bind λv44=>(asBool V[3]?).bind λc45=>(evF EnA n 116 (iL v37::kQ c38 v39 c40 v42 [.bool c43,iL v44,.bool c45])).bind λr46=> (asInt .i64 (r46[0]?)).bind λn47=>
(cond (n47<0) (some (k26 g e a c h d f i q k o r t s p b j l w v x A u B y z [.bool false])) (q2g.l5 n [A2] m (k26 g e a c h d f i q k o r t s p b j l w v x A u B y z (iI G::k5 E D B2 B5 (w6 (A1+1)) []))))) (q2g.l5 n [A2] m (k26 g e a c h d f i q k o r t s p b j l w v x A u B y z (iI G::k5 E D B2 B5 (w6 (A1+1)) [])))))) (cond (n19>0) ((ix G j.length).bind λi48=> (asLst 4 (at' j i48 0)).bind λP=> (ix A1 P.length).bind λW=> (asLst 1 (at' P W 0)).bind λv51=> (asBool (at' P W 1)).bind λc52=> (asLst 1 (at' P W 2)).bind λv53=> (asBool (at' P W 3)).bind λc54=> (evF EnA n 111 [iI Z]).bind λX=> (asLst 1 X[0]?).bind λv56=>(asBool X[1]?).bind λc57=>(asLst 1 X[2]?).bind λv58=>(asBool X[3]?).bind λc59=>(evF EnA n 116 (iL v51::kQ c52 v53 c54 v56 [.bool c57,iL v58,.bool c59])).bind λr60=> (asInt .i64 (r60[0]?)).bind λn61=>
(cond (n61<0) (some (k26 g e a c h d f i q k o r t s p b j l w v x A u B y z [.bool false])) (q2g.l5 n [A2] m (k26 g e a c h d f i q k o r t s p b j l w v x A u B y z (iI G::k5 E D B2 B5 (w6 (A1+1)) []))))) (q2g.l5 n [A2] m (k26 g e a c h d f i q k o r t s p b j l w v x A u B y z (iI G::k5 E D B2 B5 (w6 (A1+1)) [])))))) (q2g.l2 n [] A2 (k26 g e a c h d f i q k o r t s p b j l w v x A u B y z [iI E,iI (w6 (D+1))]))):=by kernel_rfl
theorem qpw:evF EnA (n+1) 49 (k26 g e a c h d f i q k o r t s p b j l w v x A u B y z [])=q2g.l2 n [] n (k26 g e a c h d f i q k o r t s p b j l w v x A u B y z [iI e,iI 0]):=by kernel_rfl
theorem qpx:evF EnA (n+1) 50 (k26 g e a c h d f i q k o r t s p b j l w v x A u B y z [])=(evF EnA n 20 [.list 8 f,iL i]).bind λK=> (asBool K[0]?).bind λM=>some (k26 g e a c h d f i q k o r t s p b j l w v x A u B y z [.bool M]):=by kernel_rfl
def q5f.l2(n:Nat):=Lp EnA n 51 [1,0,1,0]
theorem q5f.qt:q5f.l2 n [] (m+1) (k26 g e a c h d f i q k o r t s p b j l w v x A u B y z [.list 8 H,iI E,iI D]) =
(cond (D<E) ((ix D H.length).bind λK=> (asStr (at' H K 0)).bind λO=> (asInt .i64 (at' H K 1)).bind λP=> (asInt .i64 (at' H K 2)).bind λQ=> (asBool (at' H K 3)).bind λR=> (asInt .i64 (at' H K 4)).bind λS=> (asLst 1 (at' H K 5)).bind λT=> (asInt .i64 (at' H K 6)).bind λU=> (asInt .i64 (at' H K 7)).bind λV=> (ix D i.length).bind λW=> (asBool (at' i W 0)).bind λX=>
(cond (!X) (q5f.l2 n [] m (k26 g e a c h d f i q k o r t s p b j l w v x A u B y z [.list 8 H,iI E,iI (w6 (D+1))])) ((evF EnA n 117 (kB O P Q R S T U V [iL o])).bind λN=> (asStr N[0]?).bind λY=>(asInt .i64 N[1]?).bind λn13=>(evF EnA n 118 [.str Y]).bind λM=> (asLst 1 M[0]?).bind λZ=>(asBool M[1]?).bind λc16=>(asLst 1 M[2]?).bind λv17=>(asBool M[3]?).bind λc18=>(asInt .i64 M[4]?).bind λn19=>(evF EnA n 115 [iL Z,.bool c16,iL v17,.bool c18]).bind λr20=> (asInt .i64 (r20[0]?)).bind λn21=>
(cond (n21<0) (some (k26 g e a c h d f i q k o r t s p b j l w v x A u B y z [.bool false])) (q5f.l2 n [] m (k26 g e a c h d f i q k o r t s p b j l w v x A u B y z [.list 8 H,iI E,iI (w6 (D+1))])))))) (some (k26 g e a c h d f i q k o r t s p b j l w v x A u B y z [.bool true]))):=by kernel_rfl
theorem qpy:evF EnA (n+1) 51 (k26 g e a c h d f i q k o r t s p b j l w v x A u B y z [])=q5f.l2 n [] n (k26 g e a c h d f i q k o r t s p b j l w v x A u B y z [.list 8 f,iI (f.length:Int),iI 0]):=by kernel_rfl
theorem qpz:evF EnA (n+1) 52 (k26 g e a c h d f i q k o r t s p b j l w v x A u B y z [])=(evF EnA n 119 [.list 7 d,iL q,.list 8 f,iL i]).bind λK=> (asStr K[0]?).bind λM=>some (k26 g e a c h d f i q k o r t s p b j l w v x A u B y z [.bool (M.toList==r.toList)]):=by kernel_rfl
theorem qq0:evF EnA (n+1) 53 (k26 g e a c h d f i q k o r t s p b j l w v x A u B y z [])=(evF EnA n 116 (iL u::kQ B y z w [.bool v,iL x,.bool A])).bind λM=> (asInt .i64 (M[0]?)).bind λK=>
(cond (K≥0) (cond (!s) (some (k26 g e a c h d f i q k o r t s p b j l w v x A u B y z [.bool true])) (some (k26 g e a c h d f i q k o r t s p b j l w v x A u B y z [.bool (K==0)]))) (some (k26 g e a c h d f i q k o r t s p b j l w v x A u B y z [.bool false]))):=by kernel_rfl
theorem qmw:evF EnA (n+1) 104 [iL C,.bool A5]=(evF EnA n 105 [iL C]).bind λK=> (asLst 4 K[0]?).bind λM=>(asBool K[1]?).bind λN=>
(cond A5 (some [.bool N,.list 4 M]) (some [.bool false,.list 4 M])):=by kernel_rfl
def q66.l3(n:Nat):=Lp EnA n 105 [1,1,0,1,0]
theorem q66.qq:q66.l3 n [] (m+1) [.list 4 C,iL I,iI A0,iI c] =
(cond (c<A0) ((ix c I.length).bind λM=> (asStr (at' I M 0)).bind λN=> (evF EnA n 118 [.str N]).bind λK=> (asLst 1 K[0]?).bind λO=>(asBool K[1]?).bind λP=>(asLst 1 K[2]?).bind λQ=>(asBool K[3]?).bind λR=>(asInt .i64 (K[4]?)).bind λS=>
(cond (S !=0) (some [.list 4 [],.bool false]) ((ix c C.length).bind λT=> q66.l3 n [] m [.list 4 (List.set C T (.agg [iL O,.bool P,iL Q,.bool R])),iL I,iI A0,iI (w6 (c+1))]))) (some [.list 4 C,.bool true])):=by kernel_rfl
theorem qo7:evF EnA (n+1) 105 [iL C]=(q1p 64 (C.length:Int)).bind λK=> (bd (C.length:Int) K).bind λM=> q66.l3 n [] n [.list 4 (List.replicate M (.agg [iL [],.bool false,iL [],.bool false]:FV)),iL C,iI (C.length:Int),iI 0]:=by kernel_rfl
theorem qq1:evF EnA (n+1) 106 [iL C,.bool A5,iL a,.bool A6,iI h,iI A8]=(evF EnA n 111 [iI h]).bind λK=> (asLst 1 K[0]?).bind λN=>(asBool K[1]?).bind λO=>(asLst 1 K[2]?).bind λP=>(asBool K[3]?).bind λQ=>(evF EnA n 116 (iL C::kQ A5 a A6 N [.bool O,iL P,.bool Q])).bind λR=> (asInt .i64 (R[0]?)).bind λS=>
(cond (S≥0) ((evF EnA n 111 [iI A8]).bind λM=> (asLst 1 M[0]?).bind λT=>(asBool M[1]?).bind λU=>(asLst 1 M[2]?).bind λV=>(asBool M[3]?).bind λW=>(evF EnA n 116 (iL C::kQ A5 a A6 T [.bool U,iL V,.bool W])).bind λX=> (asInt .i64 X[0]?).bind λY=>some [.bool (decide (Y<=0))]) (some [.bool false])):=by kernel_rfl
theorem qq2:evF EnA (n+1) 107 [iL C,.bool A5,iL a,.bool A6,.ref 26 B9]=(asInt .i64 (at' [B9] 0 3)).bind λK=> (asInt .i64 (at' [B9] 0 4)).bind λM=> (evF EnA n 106 [iL C,.bool A5,iL a,.bool A6,iI K,iI M]).bind λN=> (asBool N[0]?).bind λO=>some [.ref 26 (B9),.bool (!O)]:=by kernel_rfl
def q6j.l5(n:Nat):=Lp EnA n 108 [1,1,1,0,1,0]
theorem q6j.q1h:q6j.l5 n [] (m+1) (k5 g e a c h [.list 4 d,iI B3,iI A9]) =
(cond (A9<B3) ((ix A9 d.length).bind λK=> (asLst 1 (at' d K 0)).bind λO=> (asBool (at' d K 1)).bind λP=> (asLst 1 (at' d K 2)).bind λQ=> (asBool (at' d K 3)).bind λR=> (ix A9 a.length).bind λW=> (asInt .i64 (at' a W 2)).bind λX=> (evF EnA n 111 [iI X]).bind λM=> (asLst 1 M[0]?).bind λS=>(asBool M[1]?).bind λT=>(asLst 1 M[2]?).bind λU=>(asBool M[3]?).bind λV=>(evF EnA n 116 (iL O::kQ P Q R S [.bool T,iL U,.bool V])).bind λY=> (asInt .i64 (Y[0]?)).bind λZ=>
(cond (Z>0) (some [.bool false]) ((evF EnA n 169 [iL S,.bool T,iL U,.bool V]).bind λN=> (asLst 1 N[0]?).bind λv15=>(asBool N[1]?).bind λc16=>(asLst 1 N[2]?).bind λv17=>(asBool N[3]?).bind λc18=>(evF EnA n 116 (iL O::kQ P Q R v15 [.bool c16,iL v17,.bool c18])).bind λr19=> (asInt .i64 (r19[0]?)).bind λn20=>
(cond (n20<0) (some [.bool false]) (q6j.l5 n [] m (k5 g e a c h [.list 4 d,iI B3,iI (w6 (A9+1))])))))) (some [.bool true])):=by kernel_rfl
theorem qq3:evF EnA (n+1) 108 (k5 g e a c h [iL d])=(evF EnA n 168 [iL d]).bind λK=> (asLst 4 K[0]?).bind λM=>(asBool K[1]?).bind λN=>
(cond (!N) (some [.bool false]) (cond ((d.length:Int) !=(a.length:Int)) (some [.bool false]) (q6j.l5 n [] n (k5 g e a c h [.list 4 M,iI (M.length:Int),iI 0])))):=by kernel_rfl
def q4k.l3(n:Nat):=Lp EnA n 110 [1,1,0,1,0]
theorem q4k.qq:q4k.l3 n [] (m+1) [.list 8 C,iI e,iL a,iL B0,iI h,iI A8] =
(cond (A8<h) ((ix A8 B0.length).bind λO=> (asBool (at' B0 O 0)).bind λP=> (ix A8 C.length).bind λK=> (asStr (at' C K 0)).bind λY=> (asInt .i64 (at' C K 1)).bind λZ=> (asInt .i64 (at' C K 2)).bind λM=> (asBool (at' C K 3)).bind λQ=> (asInt .i64 (at' C K 4)).bind λn7=> (asLst 1 (at' C K 5)).bind λN=> (asInt .i64 (at' C K 6)).bind λn9=> (asInt .i64 (at' C K 7)).bind λn10=>
(cond P (cond (0<=M) (cond (M<(a.length:Int)) (cond (0<=e) (cond (e<(N.length:Int)) ((ix M a.length).bind λR=> (asInt .i64 (at' a R 0)).bind λS=> (evF EnA n 171 [.bool Q]).bind λT=> (asInt .i64 T[0]?).bind λU=>(ix e N.length).bind λV=> (asInt .i64 (at' N V 0)).bind λW=> (ix M a.length).bind λX=> q4k.l3 n [] m [.list 8 C,iI e,iL (List.set a X (iI (w6 (S+(w6 (U*W)))))),iL B0,iI h,iI (w6 (A8+1))]) (q4k.l3 n [] m [.list 8 C,iI e,iL a,iL B0,iI h,iI (w6 (A8+1))])) (q4k.l3 n [] m [.list 8 C,iI e,iL a,iL B0,iI h,iI (w6 (A8+1))])) (q4k.l3 n [] m [.list 8 C,iI e,iL a,iL B0,iI h,iI (w6 (A8+1))])) (q4k.l3 n [] m [.list 8 C,iI e,iL a,iL B0,iI h,iI (w6 (A8+1))])) (q4k.l3 n [] m [.list 8 C,iI e,iL a,iL B0,iI h,iI (w6 (A8+1))]))) (some [iL a])):=by kernel_rfl
theorem qq4:evF EnA (n+1) 110 (k5 g e a c h [.list 8 d,iL f,iI A9])=(q1p 8 (if 0<(if 3<g then 3 else g)then(if 3<g then 3 else g)else 0)).bind λM=> (bd (if 0<(if 3<g then 3 else g)then(if 3<g then 3 else g)else 0) M).bind λN=> (bd (if(d.length:Int)<(f.length:Int)then(d.length:Int)else(f.length:Int)) f.length).bind λK=> q4k.l3 n [] n [.list 8 d,iI A9,iL (List.replicate N (iI 0:FV)),iL (List.drop 0 (List.take K f)),iI ((List.drop 0 (List.take K f)).length:Int),iI 0]:=by kernel_rfl
theorem qq5:evF EnA (n+1) 114 [iL C,.bool A5,iL a,.bool A6]=(evF EnA n 115 [iL C,.bool A5,iL a,.bool A6]).bind λK=> (asInt .i64 K[0]?).bind λM=>some [.bool (M !=0)]:=by kernel_rfl
def q1v.l5(n:Nat):=Lp EnA n 119 [1,1,1,0,1,0]
def q1v.l13(n:Nat):=Lp EnA n 119 [1,1,1,1,0,1,0]
def q1v.l18(n:Nat):=Lp EnA n 119 [1,1,1,1,0,1,0,0,1,1,0,0,1,1,1,1,0]
theorem q1v.q1h:q1v.l5 n [] (m+1) (iL C::kQ A5 a A6 A7 [.list 8 d,iL f,.list 7 i,iI B4,iI B6]) =
(cond (B6<B4) ((ix B6 i.length).bind λK=> (asStr (at' i K 0)).bind λu1=> (asInt .i64 (at' i K 1)).bind λn2=> (asInt .i64 (at' i K 2)).bind λn3=> (asInt .i64 (at' i K 3)).bind λn4=> (asBool (at' i K 4)).bind λR=> (asInt .i64 (at' i K 5)).bind λn6=> (asInt .i64 (at' i K 6)).bind λS=> (ix B6 A7.length).bind λT=> (asStr (at' A7 T 0)).bind λU=> (evF EnA n 118 [.str U]).bind λM=> (asLst 1 M[0]?).bind λV=>(asBool M[1]?).bind λW=>(asLst 1 M[2]?).bind λX=>(asBool M[3]?).bind λY=>(asInt .i64 (M[4]?)).bind λZ=>
(cond (Z !=0) (some [.str { data:=#[] }]) ((evF EnA n 171 [.bool R]).bind λr16=> (asInt .i64 r16[0]?).bind λn17=>(evF EnA n 111 [iI (w6 ((w6 (0-n17))*S))]).bind λN=> (asLst 1 N[0]?).bind λv19=>(asBool N[1]?).bind λc20=>(asLst 1 N[2]?).bind λv21=>(asBool N[3]?).bind λc22=>(evF EnA n 154 (iL V::kQ W X Y v19 [.bool c20,iL v21,.bool c22])).bind λO=> (asLst 1 O[0]?).bind λv24=>(asBool O[1]?).bind λc25=>(asLst 1 O[2]?).bind λv26=>(asBool O[3]?).bind λc27=>(evF EnA n 113 (iL C::kQ A5 a A6 v24 [.bool c25,iL v26,.bool c27])).bind λP=> (asLst 1 P[0]?).bind λv29=>(asBool P[1]?).bind λc30=>(asLst 1 P[2]?).bind λv31=>(asBool P[3]?).bind λc32=>q1v.l5 n [] m (iL v29::kQ c30 v31 c32 A7 [.list 8 d,iL f,.list 7 i,iI B4,iI (w6 (B6+1))])))) ((bd (if(d.length:Int)<(f.length:Int)then(d.length:Int)else(f.length:Int)) f.length).bind λQ=> q1v.l13 n [] n [iL C,.bool A5,iL a,.bool A6,.list 8 d,iL (List.drop 0 (List.take Q f)),iI ((List.drop 0 (List.take Q f)).length:Int),iI 0])):=by kernel_rfl
theorem q1v.q4w:q1v.l13 n [] (m+1) [iL C,.bool A5,iL a,.bool A6,.list 8 A7,iL d,iI B3,iI A9] =
(cond (A9<B3) ((ix A9 d.length).bind λN=> (asBool (at' d N 0)).bind λO=>
(cond (!O) (q1v.l13 n [] m [iL C,.bool A5,iL a,.bool A6,.list 8 A7,iL d,iI B3,iI (w6 (A9+1))]) ((ix A9 A7.length).bind λK=> (asStr (at' A7 K 0)).bind λP=> (asInt .i64 (at' A7 K 1)).bind λQ=> (asInt .i64 (at' A7 K 2)).bind λR=> (asBool (at' A7 K 3)).bind λS=> (asInt .i64 (at' A7 K 4)).bind λT=> (asLst 1 (at' A7 K 5)).bind λM=> (asInt .i64 (at' A7 K 6)).bind λU=> (asInt .i64 (at' A7 K 7)).bind λV=> q1v.l18 n [m] n (iL C::.bool A5::iL a::.bool A6::kB P Q R S T M U V [.list 8 A7,iL d,iI B3,iI A9,iL M,iI (M.length:Int),iI 0])))) ((evF EnA n 167 [iL C,.bool A5,iL a,.bool A6]).bind λW=> (asStr W[0]?).bind λX=>some [.str X])):=by kernel_rfl
theorem q1v.q7n:q1v.l18 n [A2] (m+1) (iL C::.bool A5::iL a::.bool A6::kB C8 A8 B3 C4 B4 k C9 C7 [.list 8 C2,iL C5,iI p,iI C0,iL j,iI C1,iI B8]) =
(cond (B8<C1) ((ix B8 j.length).bind λP=> (asInt .i64 (at' j P 0)).bind λQ=> (evF EnA n 111 [iI Q]).bind λK=> (asLst 1 K[0]?).bind λR=>(asBool K[1]?).bind λS=>(asLst 1 K[2]?).bind λT=>(asBool K[3]?).bind λU=>(evF EnA n 171 [.bool C4]).bind λV=> (asInt .i64 V[0]?).bind λW=>(evF EnA n 111 [iI (w6 ((w6 (0-W))*B4))]).bind λM=> (asLst 1 M[0]?).bind λX=>(asBool M[1]?).bind λY=>(asLst 1 M[2]?).bind λZ=>(asBool M[3]?).bind λc13=>(evF EnA n 154 (iL R::kQ S T U X [.bool Y,iL Z,.bool c13])).bind λN=> (asLst 1 N[0]?).bind λv15=>(asBool N[1]?).bind λc16=>(asLst 1 N[2]?).bind λv17=>(asBool N[3]?).bind λc18=>(evF EnA n 113 (iL C::kQ A5 a A6 v15 [.bool c16,iL v17,.bool c18])).bind λO=> (asLst 1 O[0]?).bind λv20=>(asBool O[1]?).bind λc21=>(asLst 1 O[2]?).bind λv22=>(asBool O[3]?).bind λc23=>q1v.l18 n [A2] m (iL v20::.bool c21::iL v22::.bool c23::kB C8 A8 B3 C4 B4 k C9 C7 [.list 8 C2,iL C5,iI p,iI C0,iL j,iI C1,iI (w6 (B8+1))])) (q1v.l13 n [] A2 [iL C,.bool A5,iL a,.bool A6,.list 8 C2,iL C5,iI p,iI (w6 (C0+1))])):=by kernel_rfl
theorem qq6:evF EnA (n+1) 119 [.list 7 C,iL I,.list 8 a,iL B0] =
(cond ((I.length:Int) !=(C.length:Int)) (some [.str { data:=#[] }]) (q1v.l5 n [] n (iL []::kQ false [] false I [.list 8 a,iL B0,.list 7 C,iI (C.length:Int),iI 0]))):=by kernel_rfl
def q67.l3(n:Nat):=Lp EnA n 168 [1,1,0,1,0]
theorem q67.qq:q67.l3 n [] (m+1) [.list 4 C,iL I,iI A0,iI c] =
(cond (c<A0) ((ix c I.length).bind λM=> (asStr (at' I M 0)).bind λN=> (evF EnA n 118 [.str N]).bind λK=> (asLst 1 K[0]?).bind λO=>(asBool K[1]?).bind λP=>(asLst 1 K[2]?).bind λQ=>(asBool K[3]?).bind λR=>(asInt .i64 (K[4]?)).bind λS=>
(cond (S !=0) (some [.list 4 [],.bool false]) ((ix c C.length).bind λT=> q67.l3 n [] m [.list 4 (List.set C T (.agg [iL O,.bool P,iL Q,.bool R])),iL I,iI A0,iI (w6 (c+1))]))) (some [.list 4 C,.bool true])):=by kernel_rfl
theorem qo8:evF EnA (n+1) 168 [iL C]=(q1p 64 (C.length:Int)).bind λK=> (bd (C.length:Int) K).bind λM=> q67.l3 n [] n [.list 4 (List.replicate M (.agg [iL [],.bool false,iL [],.bool false]:FV)),iL C,iI (C.length:Int),iI 0]:=by kernel_rfl
theorem qjj:evF EnA (n+1) 171 [.bool C6] =
(cond C6 (some [iI (-1)]) (some [iI 1])):=by kernel_rfl
def q2q.l2(n:Nat):=Lp EnA n 100046 [1,0,1,0]
def q2q.l9(n:Nat):=Lp EnA n 100046 [1,1,1,0,1,0]
theorem q2q.qt:q2q.l2 n [] (m+1) [.ref 26 A3,.list 7 I,iI A0,iI c] =
(cond (c<A0) ((ix c I.length).bind λK=> (asStr (at' I K 0)).bind λW=> (asInt .i64 (at' I K 1)).bind λX=> (asInt .i64 (at' I K 2)).bind λY=> (asInt .i64 (at' I K 3)).bind λZ=> (asBool (at' I K 4)).bind λc5=> (asInt .i64 (at' I K 5)).bind λO=> (asInt .i64 (at' I K 6)).bind λn7=> (asLst 4 (at' [A3] 0 15)).bind λM=> (ix c M.length).bind λN=> (asLst 1 (at' M N 0)).bind λP=> (asBool (at' M N 1)).bind λQ=> (asLst 1 (at' M N 2)).bind λR=> (asBool (at' M N 3)).bind λS=> (evF EnA n 106 [iL P,.bool Q,iL R,.bool S,iI 0,iI O]).bind λT=> (asBool T[0]?).bind λU=>
(cond (!U) (some [.bool false]) (q2q.l2 n [] m [.ref 26 (A3),.list 7 I,iI A0,iI (w6 (c+1))]))) ((asInt .i64 (at' [A3] 0 1)).bind λV=> q2q.l9 n [] n [.ref 26 (A3),iI V,iI 0])):=by kernel_rfl
theorem q2q.q3n:q2q.l9 n [] (m+1) [.ref 26 A3,iI e,iI A0] =
(cond (A0<e) ((asInt .i64 (at' [A3] 0 0)).bind λO=> (asInt .i64 (at' [A3] 0 1)).bind λP=> (asLst 3 (at' [A3] 0 2)).bind λQ=> (asInt .i64 (at' [A3] 0 3)).bind λR=> (asInt .i64 (at' [A3] 0 4)).bind λS=> (asLst 1 (at' [A3] 0 9)).bind λK=> (ix A0 K.length).bind λT=> (asLst 1 (at' K T 0)).bind λU=> (evF EnA n 108 (k5 O P Q R S [iL U])).bind λV=> (asBool V[0]?).bind λW=>
(cond (!W) (some [.bool false]) ((asLst 1 (at' [A3] 0 17)).bind λM=> (ix A0 M.length).bind λX=> (asLst 4 (at' M X 0)).bind λY=> (evF EnA n 100109 [.list 4 Y,.ref 26 (A3)]).bind λN=> (asRef 26 N[0]?).bind λZ=>(asBool N[1]?).bind λc15=>
(cond c15 (some [.bool false]) (q2q.l9 n [] m [.ref 26 (hd1 Z),iI e,iI (w6 (A0+1))]))))) (some [.bool true])):=by kernel_rfl
theorem qq7:evF EnA (n+1) 100046 [.ref 26 A3]=(asLst 7 (at' [A3] 0 5)).bind λK=> q2q.l2 n [] n [.ref 26 (A3),.list 7 K,iI (K.length:Int),iI 0]:=by kernel_rfl
theorem qq8:evF EnA (n+1) 100109 [.list 4 C,.ref 26 B7]=(evF EnA n 100170 [.list 4 C,.ref 26 (B7)]).bind λK=> (asRef 26 K[0]?).bind λM=>(asInt .i64 K[1]?).bind λN=>some [.ref 26 (hd1 M),.bool (decide (N≥0))]:=by kernel_rfl
def q6k.l2(n:Nat):=Lp EnA n 100170 [1,0,1,0]
theorem q6k.qt:q6k.l2 n [] (m+1) [.ref 26 A3,.list 4 I,iI A0,iI c] =
(cond (c<A0) ((ix c I.length).bind λK=> (asLst 1 (at' I K 0)).bind λO=> (asBool (at' I K 1)).bind λP=> (asLst 1 (at' I K 2)).bind λQ=> (asBool (at' I K 3)).bind λR=> (evF EnA n 107 [iL O,.bool P,iL Q,.bool R,.ref 26 (A3)]).bind λM=> (asRef 26 M[0]?).bind λN=>(asBool M[1]?).bind λS=>
(cond S (some [.ref 26 (hd1 N),iI c]) (q6k.l2 n [] m [.ref 26 (hd1 N),.list 4 I,iI A0,iI (w6 (c+1))]))) (some [.ref 26 (A3),iI (-1)])):=by kernel_rfl
theorem qq9:evF EnA (n+1) 100170 [.list 4 C,.ref 26 B7]=q6k.l2 n [] n [.ref 26 (B7),.list 4 C,iI (C.length:Int),iI 0]:=by kernel_rfl
theorem qqa(n:Nat)(C:List FV)  : evF EnA (n+1) 200109 [.list 4 C,.raw (Go.Value.func (Go.Fn.func 114) #[] #[])]=(evF EnA n 200170 [.list 4 C,.raw (Go.Value.func (Go.Fn.func 114) #[] #[])]).bind λK=> (asInt .i64 K[0]?).bind λM=>some [.bool (decide (M≥0))]:=by kernel_rfl
def q6l.l2(n:Nat):=Lp EnA n 200170 [1,0,1,0]
theorem q6l.qt(n m:Nat)(C:List FV)  (A0:Int) (c:Int):q6l.l2 n [] (m+1) [.list 4 C,.raw (Go.Value.func (Go.Fn.func 114) #[] #[]),iI A0,iI c] =
(cond (c<A0) ((ix c C.length).bind λK=> (asLst 1 (at' C K 0)).bind λM=> (asBool (at' C K 1)).bind λN=> (asLst 1 (at' C K 2)).bind λO=> (asBool (at' C K 3)).bind λP=> (evF EnA n 114 [iL M,.bool N,iL O,.bool P]).bind λQ=> (asBool Q[0]?).bind λR=>
(cond R (some [iI c]) (q6l.l2 n [] m [.list 4 C,.raw (Go.Value.func (Go.Fn.func 114) #[] #[]),iI A0,iI (w6 (c+1))]))) (some [iI (-1)])):=by kernel_rfl
theorem qqb(n:Nat)(C:List FV)  : evF EnA (n+1) 200170 [.list 4 C,.raw (Go.Value.func (Go.Fn.func 114) #[] #[])]=q6l.l2 n [] n [.list 4 C,.raw (Go.Value.func (Go.Fn.func 114) #[] #[]),iI (C.length:Int),iI 0]:=by kernel_rfl
end
section
variable (n m:Nat)
variable (F A0 A8 B4 u H A7:Bool)
variable (i d a o t b h j k p E A r I D G A4 y B1 J B2:List FV)
variable (q B0:Nat)
variable (v w B3 B5:ByteArray)
variable (f g x c e z s B A2 l B6 C B7 A9 A3 B8 A6 A5 A1:Int)
def q5w.l4(n:Nat):=Lp EnA n 55 [1,1,0,1,0]
theorem q5w.q13:q5w.l4 n [] (m+1) (k5 f g a c e (k8 b h j k v w u l [iI B6])) =
(cond (B6<g) ((ix B6 j.length).bind λK=> (asLst 1 (at' j K 0)).bind λM=>
(cond ((M.length:Int) !=(a.length:Int)) (some [.bool false]) ((ix B6 k.length).bind λN=> (asLst 1 (at' k N 0)).bind λO=>
(cond ((O.length:Int) !=f) (some [.bool false]) (q5w.l4 n [] m (k5 f g a c e (k8 b h j k v w u l [iI (w6 (B6+1))]))))))) (some [.bool true])):=by kernel_rfl
theorem qnd:evF EnA (n+1) 55 (k15 f g a c e b h j k p E B3 B5 H C [])=(evF EnA n 19 (k7 f g a c e b h [])).bind λK=> (asBool K[0]?).bind λM=>
(cond (!M) (some [.bool false]) (cond ((j.length:Int) !=(h.length:Int)) (some [.bool false]) (cond ((k.length:Int) !=(b.length:Int)) (some [.bool false]) (cond ((p.length:Int) !=g) (some [.bool false]) (cond ((E.length:Int) !=g) (some [.bool false]) (cond (C<0) (some [.bool false]) (q5w.l4 n [] n (k5 f g a c e (k8 j k p E B3 B5 H C [iI 0]))))))))):=by kernel_rfl
def q5y.l3(n:Nat):=Lp EnA n 56 [1,1,0,1,0]
theorem q5y.qq:q5y.l3 n [] (m+1) [iL i,iL d,iI x] =
(cond (x<(i.length:Int)) ((ix x i.length).bind λN=> (asLst 1 (at' i N 0)).bind λO=> (evF EnA n 120 [iL O]).bind λK=> (asLst 4 K[0]?).bind λM=>(asInt .i64 (K[1]?)).bind λP=>
(cond (P !=0) (some [iL [],.bool false]) (cond (Nat.ble (d.length+(qb 1 (.list 4 []) [(0,(.list 4 M))]).length) 5864062014805) (q5y.l3 n [] m [iL i,iL (d++(qb 1 (.list 4 []) [(0,(.list 4 M))])),iI (w6 (x+1))]) none))) (some [iL d,.bool true])):=by kernel_rfl
theorem qnf:evF EnA (n+1) 56 [iL i]=q5y.l3 n [] n [iL i,iL (qb 0 (.list 4 []) []),iI 0]:=by kernel_rfl
def q1r.l2(n:Nat):=Lp EnA n 57 [1,0,1,0]
def q1r.l7(n:Nat):=Lp EnA n 57 [1,1,0,1,0]
def q1r.l12(n:Nat):=Lp EnA n 57 [1,1,0,1,0,0,1,0,0,1,1,0]
theorem q1r.qt:q1r.l2 n [] (m+1) (k5 f g a c e (k8 b h j k v w u l [.list 7 A,.list 4 r,iL I,iI A9])) =
(cond (A9<(A.length:Int)) ((ix A9 r.length).bind λK=> (asBool (at' r K 0)).bind λO=> (asLst 1 (at' r K 1)).bind λP=> (asBool (at' r K 2)).bind λQ=> (asLst 1 (at' r K 3)).bind λR=> (evF EnA n 38 (kQ O P Q R [])).bind λS=> (asInt .i64 (S[0]?)).bind λT=>
(cond (T<0) (some [.bool false]) ((ix A9 r.length).bind λM=> (asBool (at' r M 0)).bind λU=> (asLst 1 (at' r M 1)).bind λV=> (asBool (at' r M 2)).bind λW=> (asLst 1 (at' r M 3)).bind λX=> (ix A9 A.length).bind λY=> (asInt .i64 (at' A Y 5)).bind λZ=> (evF EnA n 12 [iI Z]).bind λN=> (asBool N[0]?).bind λc15=>(asLst 1 N[1]?).bind λv16=>(asBool N[2]?).bind λc17=>(asLst 1 N[3]?).bind λv18=>(evF EnA n 32 (kQ U V W X (kQ c15 v16 c17 v18 []))).bind λr19=> (asInt .i64 (r19[0]?)).bind λn20=>
(cond (n20>0) (some [.bool false]) (q1r.l2 n [] m (k5 f g a c e (k8 b h j k v w u l [.list 7 A,.list 4 r,iL I,iI (w6 (A9+1))]))))))) (q1r.l7 n [] n (k5 f g a c e (k8 b h j k v w u l [iL I,iI 0])))):=by kernel_rfl
theorem q1r.q3a:q1r.l7 n [] (m+1) (k5 f g a c e (k8 b h j k v w u l [iL A,iI C])) =
(cond (C<g) ((ix C j.length).bind λK=> (asLst 1 (at' j K 0)).bind λM=> (evF EnA n 121 (k5 f g a c e [iL M])).bind λN=> (asBool N[0]?).bind λO=>
(cond (!O) (some [.bool false]) (q1r.l12 n [m] n (k5 f g a c e (k8 b h j k v w u l [iL A,iI C,iI 0]))))) (some [.bool true])):=by kernel_rfl
theorem q1r.q58:q1r.l12 n [q] (m+1) (k5 f g a c e (k8 b h j k v w u l [iL A,iI C,iI B7])) =
(cond (B7<f) ((ix C A.length).bind λR=> (asLst 4 (at' A R 0)).bind λK=> (ix B7 K.length).bind λN=> (asBool (at' K N 0)).bind λS=> (asLst 1 (at' K N 1)).bind λT=> (asBool (at' K N 2)).bind λU=> (asLst 1 (at' K N 3)).bind λV=> (evF EnA n 12 [iI c]).bind λO=> (asBool O[0]?).bind λW=>(asLst 1 O[1]?).bind λX=>(asBool O[2]?).bind λY=>(asLst 1 O[3]?).bind λZ=>(evF EnA n 32 (kQ S T U V (kQ W X Y Z []))).bind λr12=> (asInt .i64 (r12[0]?)).bind λn13=>
(cond (n13<0) (some [.bool false]) ((ix C A.length).bind λi14=> (asLst 4 (at' A i14 0)).bind λM=> (ix B7 M.length).bind λP=> (asBool (at' M P 0)).bind λc17=> (asLst 1 (at' M P 1)).bind λv18=> (asBool (at' M P 2)).bind λc19=> (asLst 1 (at' M P 3)).bind λv20=> (evF EnA n 12 [iI e]).bind λQ=> (asBool Q[0]?).bind λc22=>(asLst 1 Q[1]?).bind λv23=>(asBool Q[2]?).bind λc24=>(asLst 1 Q[3]?).bind λv25=>(evF EnA n 32 (kQ c17 v18 c19 v20 (kQ c22 v23 c24 v25 []))).bind λr26=> (asInt .i64 (r26[0]?)).bind λn27=>
(cond (n27>0) (some [.bool false]) (q1r.l12 n [q] m (k5 f g a c e (k8 b h j k v w u l [iL A,iI C,iI (w6 (B7+1))]))))))) (q1r.l7 n [] q (k5 f g a c e (k8 b h j k v w u l [iL A,iI (w6 (C+1))])))):=by kernel_rfl
theorem qnj:evF EnA (n+1) 57 (k5 f g a c e (.list 7 b::.list 4 h::k8 j k p E B3 B5 H C [iL I]))=q1r.l2 n [] n (k5 f g a c e (k8 j k p E B3 B5 H C [.list 7 b,.list 4 h,iL I,iI 0])):=by kernel_rfl
def q1k.l2(n:Nat):=Lp EnA n 58 [1,0,1,0]
def q1k.l7(n:Nat):=Lp EnA n 58 [1,0,1,0,0,1,0,0,1,1,1,0]
def q1k.l11(n:Nat):=Lp EnA n 58 [1,0,1,0,0,1,0,0,1,1,1,0,0,1,0,0,1,0,1,0]
theorem q1k.qt:q1k.l2 n [] (m+1) (k5 f g a c e (k8 b h j k v w u l [.list 7 A,.list 8 r,.list 4 I,iL D,iI A3])) =
(cond (A3<g) ((ix A3 D.length).bind λK=> (asLst 4 (at' D K 0)).bind λM=> (evF EnA n 122 (k5 f g a c e [.list 4 M])).bind λN=> (asLst 4 N[0]?).bind λO=>(evF EnA n 123 (k5 f g a c e [.list 8 r,iL b,iI A3])).bind λP=> (asLst 1 P[0]?).bind λQ=>q1k.l7 n [m] n (k5 f g a c e (k8 b h j k v w u l [.list 7 A,.list 8 r,.list 4 I,iL D,iI A3,.list 4 O,iL Q,iI 0]))) (some [.bool true])):=by kernel_rfl
theorem q1k.q3a:q1k.l7 n [q] (m+1) (k5 f g a c e (k8 b h j k v w u l [.list 7 A,.list 8 r,.list 4 I,iL D,iI A3,.list 4 A4,iL y,iI B8])) =
(cond (B8<f) ((ix B8 y.length).bind λM=> (asInt .i64 (at' y M 0)).bind λN=> (evF EnA n 12 [iI N]).bind λK=> (asBool K[0]?).bind λO=>(asLst 1 K[1]?).bind λP=>(asBool K[2]?).bind λQ=>(asLst 1 K[3]?).bind λR=>q1k.l11 n [q,m] n (k5 f g a c e (k8 b h j k v w u l (kQ O P Q R [.list 7 A,.list 8 r,.list 4 I,iL D,iI A3,.list 4 A4,iL y,iI B8,iI 0])))) (q1k.l2 n [] q (k5 f g a c e (k8 b h j k v w u l [.list 7 A,.list 8 r,.list 4 I,iL D,iI (w6 (A3+1))])))):=by kernel_rfl
theorem q1k.q84:q1k.l11 n [q,B0] (m+1) (k5 f g a c e (k8 b h j k v w u l (kQ H r A7 D [.list 7 G,.list 8 A4,.list 4 y,iL B1,iI A6,.list 4 J,iL B2,iI A5,iI A1]))) =
(cond (A1<(G.length:Int)) ((ix A1 G.length).bind λQ=> (asInt .i64 (at' G Q 3)).bind λR=>
(cond (R==A6) ((ix A1 G.length).bind λS=> (asInt .i64 (at' G S 2)).bind λT=>
(cond (T==A5) ((ix A1 G.length).bind λU=> (asBool (at' G U 4)).bind λV=>
(cond V ((ix A1 y.length).bind λK=> (asBool (at' y K 0)).bind λW=> (asLst 1 (at' y K 1)).bind λX=> (asBool (at' y K 2)).bind λY=> (asLst 1 (at' y K 3)).bind λZ=> (evF EnA n 92 (kQ H r A7 D (kQ W X Y Z []))).bind λM=> (asBool M[0]?).bind λc12=>(asLst 1 M[1]?).bind λv13=>(asBool M[2]?).bind λc14=>(asLst 1 M[3]?).bind λv15=>q1k.l11 n [q,B0] m (k5 f g a c e (k8 b h j k v w u l (kQ c12 v13 c14 v15 [.list 7 G,.list 8 A4,.list 4 y,iL B1,iI A6,.list 4 J,iL B2,iI A5,iI (w6 (A1+1))])))) ((ix A1 y.length).bind λN=> (asBool (at' y N 0)).bind λc17=> (asLst 1 (at' y N 1)).bind λv18=> (asBool (at' y N 2)).bind λc19=> (asLst 1 (at' y N 3)).bind λv20=> (evF EnA n 37 (kQ H r A7 D (kQ c17 v18 c19 v20 []))).bind λO=> (asBool O[0]?).bind λc22=>(asLst 1 O[1]?).bind λv23=>(asBool O[2]?).bind λc24=>(asLst 1 O[3]?).bind λv25=>q1k.l11 n [q,B0] m (k5 f g a c e (k8 b h j k v w u l (kQ c22 v23 c24 v25 [.list 7 G,.list 8 A4,.list 4 y,iL B1,iI A6,.list 4 J,iL B2,iI A5,iI (w6 (A1+1))])))))) (q1k.l11 n [q,B0] m (k5 f g a c e (k8 b h j k v w u l (kQ H r A7 D [.list 7 G,.list 8 A4,.list 4 y,iL B1,iI A6,.list 4 J,iL B2,iI A5,iI (w6 (A1+1))])))))) (q1k.l11 n [q,B0] m (k5 f g a c e (k8 b h j k v w u l (kQ H r A7 D [.list 7 G,.list 8 A4,.list 4 y,iL B1,iI A6,.list 4 J,iL B2,iI A5,iI (w6 (A1+1))])))))) ((ix A5 J.length).bind λP=> (asBool (at' J P 0)).bind λc27=> (asLst 1 (at' J P 1)).bind λv28=> (asBool (at' J P 2)).bind λc29=> (asLst 1 (at' J P 3)).bind λv30=> (evF EnA n 32 (kQ H r A7 D (kQ c27 v28 c29 v30 []))).bind λr31=> (asInt .i64 (r31[0]?)).bind λn32=>
(cond (n32 !=0) (some [.bool false]) (q1k.l7 n [q] B0 (k5 f g a c e (k8 b h j k v w u l [.list 7 G,.list 8 A4,.list 4 y,iL B1,iI A6,.list 4 J,iL B2,iI (w6 (A5+1))])))))):=by kernel_rfl
theorem qn7:evF EnA (n+1) 58 (k15 f g a c e b h j k p E B3 B5 H C [.list 4 I,iL D])=q1k.l2 n [] n (k5 f g a c e (k8 j k p E B3 B5 H C [.list 7 b,.list 8 h,.list 4 I,iL D,iI 0])):=by kernel_rfl
def q3b.l2(n:Nat):=Lp EnA n 59 [1,0,1,0]
theorem q3b.qt:q3b.l2 n [] (m+1) [.list 7 i,.list 4 d,iL a,iI c] =
(cond (c<(i.length:Int)) ((ix c i.length).bind λK=> (asStr (at' i K 0)).bind λu1=> (asInt .i64 (at' i K 1)).bind λn2=> (asInt .i64 (at' i K 2)).bind λn3=> (asInt .i64 (at' i K 3)).bind λn4=> (asBool (at' i K 4)).bind λc5=> (asInt .i64 (at' i K 5)).bind λO=> (asInt .i64 (at' i K 6)).bind λn7=> (ix n4 a.length).bind λi8=> (asLst 4 (at' a i8 0)).bind λN=> (ix n3 N.length).bind λP=> (asBool (at' N P 0)).bind λc11=> (asLst 1 (at' N P 1)).bind λv12=> (asBool (at' N P 2)).bind λc13=> (asLst 1 (at' N P 3)).bind λv14=> (evF EnA n 12 [iI n7]).bind λQ=> (asBool Q[0]?).bind λc16=>(asLst 1 Q[1]?).bind λv17=>(asBool Q[2]?).bind λc18=>(asLst 1 Q[3]?).bind λv19=>(evF EnA n 32 (kQ c11 v12 c13 v14 (kQ c16 v17 c18 v19 []))).bind λr20=> (asInt .i64 (r20[0]?)).bind λM=>
(cond c5 ((ix c d.length).bind λR=> (asBool (at' d R 0)).bind λc23=> (asLst 1 (at' d R 1)).bind λv24=> (asBool (at' d R 2)).bind λc25=> (asLst 1 (at' d R 3)).bind λv26=> (evF EnA n 38 (kQ c23 v24 c25 v26 [])).bind λr27=> (asInt .i64 (r27[0]?)).bind λn28=>
(cond (n28>0) (cond ((w6 (0-M))<0) (some [.bool false]) ((ix c d.length).bind λS=> (asBool (at' d S 0)).bind λc30=> (asLst 1 (at' d S 1)).bind λv31=> (asBool (at' d S 2)).bind λc32=> (asLst 1 (at' d S 3)).bind λv33=> (evF EnA n 12 [iI O]).bind λT=> (asBool T[0]?).bind λc35=>(asLst 1 T[1]?).bind λv36=>(asBool T[2]?).bind λc37=>(asLst 1 T[3]?).bind λv38=>(evF EnA n 32 (kQ c30 v31 c32 v33 (kQ c35 v36 c37 v38 []))).bind λr39=> (asInt .i64 (r39[0]?)).bind λn40=>
(cond (n40<0) (cond ((w6 (0-M))>0) (some [.bool false]) (q3b.l2 n [] m [.list 7 i,.list 4 d,iL a,iI (w6 (c+1))])) (q3b.l2 n [] m [.list 7 i,.list 4 d,iL a,iI (w6 (c+1))])))) ((ix c d.length).bind λU=> (asBool (at' d U 0)).bind λc42=> (asLst 1 (at' d U 1)).bind λv43=> (asBool (at' d U 2)).bind λc44=> (asLst 1 (at' d U 3)).bind λv45=> (evF EnA n 12 [iI O]).bind λV=> (asBool V[0]?).bind λc47=>(asLst 1 V[1]?).bind λv48=>(asBool V[2]?).bind λc49=>(asLst 1 V[3]?).bind λv50=>(evF EnA n 32 (kQ c42 v43 c44 v45 (kQ c47 v48 c49 v50 []))).bind λr51=> (asInt .i64 (r51[0]?)).bind λn52=>
(cond (n52<0) (cond ((w6 (0-M))>0) (some [.bool false]) (q3b.l2 n [] m [.list 7 i,.list 4 d,iL a,iI (w6 (c+1))])) (q3b.l2 n [] m [.list 7 i,.list 4 d,iL a,iI (w6 (c+1))]))))) ((ix c d.length).bind λW=> (asBool (at' d W 0)).bind λc54=> (asLst 1 (at' d W 1)).bind λv55=> (asBool (at' d W 2)).bind λc56=> (asLst 1 (at' d W 3)).bind λv57=> (evF EnA n 38 (kQ c54 v55 c56 v57 [])).bind λr58=> (asInt .i64 (r58[0]?)).bind λn59=>
(cond (n59>0) (cond (M<0) (some [.bool false]) ((ix c d.length).bind λX=> (asBool (at' d X 0)).bind λc61=> (asLst 1 (at' d X 1)).bind λv62=> (asBool (at' d X 2)).bind λc63=> (asLst 1 (at' d X 3)).bind λv64=> (evF EnA n 12 [iI O]).bind λY=> (asBool Y[0]?).bind λc66=>(asLst 1 Y[1]?).bind λv67=>(asBool Y[2]?).bind λc68=>(asLst 1 Y[3]?).bind λv69=>(evF EnA n 32 (kQ c61 v62 c63 v64 (kQ c66 v67 c68 v69 []))).bind λr70=> (asInt .i64 (r70[0]?)).bind λn71=>
(cond (n71<0) (cond (M>0) (some [.bool false]) (q3b.l2 n [] m [.list 7 i,.list 4 d,iL a,iI (w6 (c+1))])) (q3b.l2 n [] m [.list 7 i,.list 4 d,iL a,iI (w6 (c+1))])))) ((ix c d.length).bind λZ=> (asBool (at' d Z 0)).bind λc73=> (asLst 1 (at' d Z 1)).bind λv74=> (asBool (at' d Z 2)).bind λc75=> (asLst 1 (at' d Z 3)).bind λv76=> (evF EnA n 12 [iI O]).bind λr77=> (asBool r77[0]?).bind λc78=>(asLst 1 r77[1]?).bind λv79=>(asBool r77[2]?).bind λc80=>(asLst 1 r77[3]?).bind λv81=>(evF EnA n 32 (kQ c73 v74 c75 v76 (kQ c78 v79 c80 v81 []))).bind λr82=> (asInt .i64 (r82[0]?)).bind λn83=>
(cond (n83<0) (cond (M>0) (some [.bool false]) (q3b.l2 n [] m [.list 7 i,.list 4 d,iL a,iI (w6 (c+1))])) (q3b.l2 n [] m [.list 7 i,.list 4 d,iL a,iI (w6 (c+1))]))))))) (some [.bool true])):=by kernel_rfl
theorem qn9:evF EnA (n+1) 59 [.list 7 i,.list 4 d,iL a]=q3b.l2 n [] n [.list 7 i,.list 4 d,iL a,iI 0]:=by kernel_rfl
def q2f.l2(n:Nat):=Lp EnA n 60 [1,0,1,0]
def q2f.l5(n:Nat):=Lp EnA n 60 [1,0,1,0,0,1,0,0,1,0]
theorem q2f.qt:q2f.l2 n [] (m+1) (k5 f g a c e [iL b,iL h,iI s]) =
(cond (s<g) (q2f.l5 n [m] n (k5 f g a c e [iL b,iL h,iI s,iI 0])) (some [.bool true])):=by kernel_rfl
theorem q2f.q1h:q2f.l5 n [q] (m+1) (k5 f g a c e [iL b,iL h,iI s,iI B]) =
(cond (B<(a.length:Int)) ((ix B a.length).bind λY=> (asInt .i64 (at' a Y 0)).bind λn1=> (asInt .i64 (at' a Y 1)).bind λn2=> (asInt .i64 (at' a Y 2)).bind λZ=> (ix s h.length).bind λi4=> (asLst 4 (at' h i4 0)).bind λK=> (ix n2 K.length).bind λQ=> (asBool (at' K Q 0)).bind λc7=> (asLst 1 (at' K Q 1)).bind λv8=> (asBool (at' K Q 2)).bind λc9=> (asLst 1 (at' K Q 3)).bind λv10=> (ix s h.length).bind λi11=> (asLst 4 (at' h i11 0)).bind λM=> (ix n1 M.length).bind λR=> (asBool (at' M R 0)).bind λc14=> (asLst 1 (at' M R 1)).bind λv15=> (asBool (at' M R 2)).bind λc16=> (asLst 1 (at' M R 3)).bind λv17=> (evF EnA n 32 (kQ c7 v8 c9 v10 (kQ c14 v15 c16 v17 []))).bind λr18=> (asInt .i64 r18[0]?).bind λn19=>(ix s b.length).bind λi20=> (asLst 4 (at' b i20 0)).bind λN=> (ix B N.length).bind λS=> (asBool (at' N S 0)).bind λc23=> (asLst 1 (at' N S 1)).bind λv24=> (asBool (at' N S 2)).bind λc25=> (asLst 1 (at' N S 3)).bind λv26=> (evF EnA n 12 [iI (w6 (0-Z))]).bind λT=> (asBool T[0]?).bind λc28=>(asLst 1 T[1]?).bind λv29=>(asBool T[2]?).bind λc30=>(asLst 1 T[3]?).bind λv31=>(evF EnA n 32 (kQ c23 v24 c25 v26 (kQ c28 v29 c30 v31 []))).bind λr32=> (asInt .i64 (r32[0]?)).bind λn33=>
(cond (n33>0) (cond (n19<0) (some [.bool false]) ((ix s b.length).bind λi34=> (asLst 4 (at' b i34 0)).bind λO=> (ix B O.length).bind λU=> (asBool (at' O U 0)).bind λc37=> (asLst 1 (at' O U 1)).bind λv38=> (asBool (at' O U 2)).bind λc39=> (asLst 1 (at' O U 3)).bind λv40=> (evF EnA n 12 [iI Z]).bind λV=> (asBool V[0]?).bind λc42=>(asLst 1 V[1]?).bind λv43=>(asBool V[2]?).bind λc44=>(asLst 1 V[3]?).bind λv45=>(evF EnA n 32 (kQ c37 v38 c39 v40 (kQ c42 v43 c44 v45 []))).bind λr46=> (asInt .i64 (r46[0]?)).bind λn47=>
(cond (n47<0) (cond (n19>0) (some [.bool false]) (q2f.l5 n [q] m (k5 f g a c e [iL b,iL h,iI s,iI (w6 (B+1))]))) (q2f.l5 n [q] m (k5 f g a c e [iL b,iL h,iI s,iI (w6 (B+1))]))))) ((ix s b.length).bind λi48=> (asLst 4 (at' b i48 0)).bind λP=> (ix B P.length).bind λW=> (asBool (at' P W 0)).bind λc51=> (asLst 1 (at' P W 1)).bind λv52=> (asBool (at' P W 2)).bind λc53=> (asLst 1 (at' P W 3)).bind λv54=> (evF EnA n 12 [iI Z]).bind λX=> (asBool X[0]?).bind λc56=>(asLst 1 X[1]?).bind λv57=>(asBool X[2]?).bind λc58=>(asLst 1 X[3]?).bind λv59=>(evF EnA n 32 (kQ c51 v52 c53 v54 (kQ c56 v57 c58 v59 []))).bind λr60=> (asInt .i64 (r60[0]?)).bind λn61=>
(cond (n61<0) (cond (n19>0) (some [.bool false]) (q2f.l5 n [q] m (k5 f g a c e [iL b,iL h,iI s,iI (w6 (B+1))]))) (q2f.l5 n [q] m (k5 f g a c e [iL b,iL h,iI s,iI (w6 (B+1))])))))) (q2f.l2 n [] q (k5 f g a c e [iL b,iL h,iI (w6 (s+1))]))):=by kernel_rfl
theorem qnb:evF EnA (n+1) 60 (k5 f g a c e [iL b,iL h])=q2f.l2 n [] n (k5 f g a c e [iL b,iL h,iI 0]):=by kernel_rfl
def q1o.l6(n:Nat):=Lp EnA n 62 [1,1,1,1,0,1,0]
def q1o.l10(n:Nat):=Lp EnA n 62 [1,1,1,1,1,0,1,0]
def q1o.l13(n:Nat):=Lp EnA n 62 [1,1,1,1,1,0,1,0,0,1,0,0,1,0]
theorem q1o.q2n:q1o.l6 n [] (m+1) (kQ F d A0 o [.list 7 t,.list 8 b,iL h,.list 4 j,iI B]) =
(cond (B<(t.length:Int)) ((ix B j.length).bind λK=> (asBool (at' j K 0)).bind λP=> (asLst 1 (at' j K 1)).bind λQ=> (asBool (at' j K 2)).bind λR=> (asLst 1 (at' j K 3)).bind λS=> (ix B t.length).bind λT=> (asBool (at' t T 4)).bind λU=> (ix B t.length).bind λV=> (asInt .i64 (at' t V 6)).bind λW=> (evF EnA n 124 [.bool U,iI W]).bind λX=> (asInt .i64 X[0]?).bind λY=>(evF EnA n 12 [iI Y]).bind λM=> (asBool M[0]?).bind λZ=>(asLst 1 M[1]?).bind λv13=>(asBool M[2]?).bind λc14=>(asLst 1 M[3]?).bind λv15=>(evF EnA n 13 (kQ P Q R S (kQ Z v13 c14 v15 []))).bind λN=> (asBool N[0]?).bind λc17=>(asLst 1 N[1]?).bind λv18=>(asBool N[2]?).bind λc19=>(asLst 1 N[3]?).bind λv20=>(evF EnA n 37 (kQ F d A0 o (kQ c17 v18 c19 v20 []))).bind λO=> (asBool O[0]?).bind λc22=>(asLst 1 O[1]?).bind λv23=>(asBool O[2]?).bind λc24=>(asLst 1 O[3]?).bind λv25=>q1o.l6 n [] m (kQ c22 v23 c24 v25 [.list 7 t,.list 8 b,iL h,.list 4 j,iI (w6 (B+1))])) (q1o.l10 n [] n (kQ F d A0 o [.list 8 b,iL h,iI 0]))):=by kernel_rfl
theorem q1o.q45:q1o.l10 n [] (m+1) (kQ F d A0 o [.list 8 t,iL b,iI z]) =
(cond (z<(t.length:Int)) (cond (z<(b.length:Int)) (q1o.l13 n [m] n (kQ F d A0 o [.list 8 t,iL b,iI z,iI 0])) ((evF EnA n 14 (kQ F d A0 o [])).bind λK=> (asStr K[0]?).bind λM=>some [.str M])) ((evF EnA n 14 (kQ F d A0 o [])).bind λN=> (asStr N[0]?).bind λO=>some [.str O])):=by kernel_rfl
theorem q1o.q4w:q1o.l13 n [q] (m+1) (kQ F d A0 o [.list 8 t,iL b,iI z,iI s])=(ix z t.length).bind λQ=> (asLst 1 (at' t Q 5)).bind λR=>
(cond (s<(R.length:Int)) ((ix z b.length).bind λS=> (asBool (at' b S 0)).bind λT=>
(cond T ((ix z t.length).bind λU=> (asLst 1 (at' t U 5)).bind λP=> (ix s P.length).bind λV=> (asInt .i64 (at' P V 0)).bind λW=> (evF EnA n 12 [iI W]).bind λK=> (asBool K[0]?).bind λX=>(asLst 1 K[1]?).bind λY=>(asBool K[2]?).bind λZ=>(asLst 1 K[3]?).bind λv12=>(ix z t.length).bind λi13=> (asBool (at' t i13 3)).bind λc14=> (ix z t.length).bind λi15=> (asInt .i64 (at' t i15 4)).bind λn16=> (evF EnA n 124 [.bool c14,iI n16]).bind λr17=> (asInt .i64 r17[0]?).bind λn18=>(evF EnA n 12 [iI n18]).bind λM=> (asBool M[0]?).bind λc20=>(asLst 1 M[1]?).bind λv21=>(asBool M[2]?).bind λc22=>(asLst 1 M[3]?).bind λv23=>(evF EnA n 13 (kQ X Y Z v12 (kQ c20 v21 c22 v23 []))).bind λN=> (asBool N[0]?).bind λc25=>(asLst 1 N[1]?).bind λv26=>(asBool N[2]?).bind λc27=>(asLst 1 N[3]?).bind λv28=>(evF EnA n 37 (kQ F d A0 o (kQ c25 v26 c27 v28 []))).bind λO=> (asBool O[0]?).bind λc30=>(asLst 1 O[1]?).bind λv31=>(asBool O[2]?).bind λc32=>(asLst 1 O[3]?).bind λv33=>q1o.l13 n [q] m (kQ c30 v31 c32 v33 [.list 8 t,iL b,iI z,iI (w6 (s+1))])) (q1o.l10 n [] q (kQ F d A0 o [.list 8 t,iL b,iI (w6 (z+1))])))) (q1o.l10 n [] q (kQ F d A0 o [.list 8 t,iL b,iI (w6 (z+1))]))):=by kernel_rfl
theorem qsk:evF EnA (n+1) 62 [.list 7 i,iL d,.list 8 a,iL o]=(evF EnA n 120 [iL d]).bind λM=> (asLst 4 M[0]?).bind λN=>(asInt .i64 (M[1]?)).bind λO=>
(cond (O !=0) (some [.str { data:=#[] }]) (cond ((N.length:Int) !=(i.length:Int)) (some [.str { data:=#[] }]) ((evF EnA n 12 [iI 0]).bind λK=> (asBool K[0]?).bind λP=>(asLst 1 K[1]?).bind λQ=>(asBool K[2]?).bind λR=>(asLst 1 K[3]?).bind λS=>q1o.l6 n [] n (kQ P Q R S [.list 7 i,.list 8 a,iL o,.list 4 N,iI 0])))):=by kernel_rfl
def q5x.l3(n:Nat):=Lp EnA n 120 [1,1,0,1,0]
theorem q5x.qq:q5x.l3 n [] (m+1) [iL i,.list 4 d,iI x] =
(cond (x<(i.length:Int)) ((ix x i.length).bind λQ=> (asStr (at' i Q 0)).bind λR=> (evF EnA n 22 [.str R]).bind λK=> (asBool K[0]?).bind λM=>(asLst 1 K[1]?).bind λN=>(asBool K[2]?).bind λO=>(asLst 1 K[3]?).bind λP=>(asInt .i64 (K[4]?)).bind λS=>
(cond (S !=0) (some [.list 4 [],iI 10]) (cond (Nat.ble (d.length+(qb 1 (.agg (kQ false [] false [] [])) [(0,(.agg (kQ M N O P [])))]).length) 2199023255552) (q5x.l3 n [] m [iL i,.list 4 (d++(qb 1 (.agg (kQ false [] false [] [])) [(0,(.agg (kQ M N O P [])))])),iI (w6 (x+1))]) none))) (some [.list 4 d,iI 0])):=by kernel_rfl
theorem qne:evF EnA (n+1) 120 [iL i]=q5x.l3 n [] n [iL i,.list 4 (qb 0 (.agg (kQ false [] false [] [])) []),iI 0]:=by kernel_rfl
def q5z.l5(n:Nat):=Lp EnA n 121 [1,1,1,0,1,0]
theorem q5z.q1h:q5z.l5 n [] (m+1) (k5 f g a c e [.list 4 b,iI z]) =
(cond (z<(b.length:Int)) ((ix z a.length).bind λT=> (asInt .i64 (at' a T 2)).bind λU=> (evF EnA n 12 [iI U]).bind λK=> (asBool K[0]?).bind λP=>(asLst 1 K[1]?).bind λQ=>(asBool K[2]?).bind λR=>(asLst 1 K[3]?).bind λS=>(ix z b.length).bind λM=> (asBool (at' b M 0)).bind λV=> (asLst 1 (at' b M 1)).bind λW=> (asBool (at' b M 2)).bind λX=> (asLst 1 (at' b M 3)).bind λY=> (evF EnA n 32 (kQ V W X Y (kQ P Q R S []))).bind λZ=> (asInt .i64 (Z[0]?)).bind λn13=>
(cond (n13>0) (some [.bool false]) ((ix z b.length).bind λN=> (asBool (at' b N 0)).bind λc15=> (asLst 1 (at' b N 1)).bind λv16=> (asBool (at' b N 2)).bind λc17=> (asLst 1 (at' b N 3)).bind λv18=> (evF EnA n 39 (kQ P Q R S [])).bind λO=> (asBool O[0]?).bind λc20=>(asLst 1 O[1]?).bind λv21=>(asBool O[2]?).bind λc22=>(asLst 1 O[3]?).bind λv23=>(evF EnA n 32 (kQ c15 v16 c17 v18 (kQ c20 v21 c22 v23 []))).bind λr24=> (asInt .i64 (r24[0]?)).bind λn25=>
(cond (n25<0) (some [.bool false]) (q5z.l5 n [] m (k5 f g a c e [.list 4 b,iI (w6 (z+1))])))))) (some [.bool true])):=by kernel_rfl
theorem qnh:evF EnA (n+1) 121 (k5 f g a c e [iL b])=(evF EnA n 120 [iL b]).bind λK=> (asLst 4 K[0]?).bind λM=>(asInt .i64 (K[1]?)).bind λN=>
(cond (N !=0) (some [.bool false]) (cond ((b.length:Int) !=(a.length:Int)) (some [.bool false]) (q5z.l5 n [] n (k5 f g a c e [.list 4 M,iI 0])))):=by kernel_rfl
def q2e.l3(n:Nat):=Lp EnA n 122 [1,1,0,1,0]
def q2e.l7(n:Nat):=Lp EnA n 122 [1,1,0,1,0,0,1,0,0,1,0,1,0]
theorem q2e.qq:q2e.l3 n [] (m+1) (k5 f g a c e [.list 4 b,.list 4 h,iI s]) =
(cond (s<f) ((evF EnA n 12 [iI 0]).bind λK=> (asBool K[0]?).bind λM=>(asLst 1 K[1]?).bind λN=>(asBool K[2]?).bind λO=>(asLst 1 K[3]?).bind λP=>q2e.l7 n [m] n (k5 f g a c e (kQ M N O P [.list 4 b,.list 4 h,iI s,iI 0]))) (some [.list 4 h])):=by kernel_rfl
theorem q2e.q3a:q2e.l7 n [q] (m+1) (k5 f g a c e (kQ A8 h B4 k [.list 4 p,.list 4 E,iI A2,iI l])) =
(cond (l<(a.length:Int)) ((ix l a.length).bind λV=> (asInt .i64 (at' a V 0)).bind λW=>
(cond (W==A2) ((ix l p.length).bind λK=> (asBool (at' p K 0)).bind λX=> (asLst 1 (at' p K 1)).bind λY=> (asBool (at' p K 2)).bind λZ=> (asLst 1 (at' p K 3)).bind λv6=> (evF EnA n 37 (kQ A8 h B4 k (kQ X Y Z v6 []))).bind λM=> (asBool M[0]?).bind λR=>(asLst 1 M[1]?).bind λS=>(asBool M[2]?).bind λT=>(asLst 1 M[3]?).bind λU=>(ix l a.length).bind λi12=> (asInt .i64 (at' a i12 1)).bind λn13=>
(cond (n13==A2) ((ix l p.length).bind λN=> (asBool (at' p N 0)).bind λc15=> (asLst 1 (at' p N 1)).bind λv16=> (asBool (at' p N 2)).bind λc17=> (asLst 1 (at' p N 3)).bind λv18=> (evF EnA n 92 (kQ R S T U (kQ c15 v16 c17 v18 []))).bind λO=> (asBool O[0]?).bind λc20=>(asLst 1 O[1]?).bind λv21=>(asBool O[2]?).bind λc22=>(asLst 1 O[3]?).bind λv23=>q2e.l7 n [q] m (k5 f g a c e (kQ c20 v21 c22 v23 [.list 4 p,.list 4 E,iI A2,iI (w6 (l+1))]))) (q2e.l7 n [q] m (k5 f g a c e (kQ R S T U [.list 4 p,.list 4 E,iI A2,iI (w6 (l+1))]))))) ((ix l a.length).bind λi24=> (asInt .i64 (at' a i24 1)).bind λn25=>
(cond (n25==A2) ((ix l p.length).bind λP=> (asBool (at' p P 0)).bind λc27=> (asLst 1 (at' p P 1)).bind λv28=> (asBool (at' p P 2)).bind λc29=> (asLst 1 (at' p P 3)).bind λv30=> (evF EnA n 92 (kQ A8 h B4 k (kQ c27 v28 c29 v30 []))).bind λQ=> (asBool Q[0]?).bind λc32=>(asLst 1 Q[1]?).bind λv33=>(asBool Q[2]?).bind λc34=>(asLst 1 Q[3]?).bind λv35=>q2e.l7 n [q] m (k5 f g a c e (kQ c32 v33 c34 v35 [.list 4 p,.list 4 E,iI A2,iI (w6 (l+1))]))) (q2e.l7 n [q] m (k5 f g a c e (kQ A8 h B4 k [.list 4 p,.list 4 E,iI A2,iI (w6 (l+1))]))))))) (cond (Nat.ble (E.length+(qb 1 (.agg (kQ false [] false [] [])) [(0,(.agg (kQ A8 h B4 k [])))]).length) 2199023255552) (q2e.l3 n [] q (k5 f g a c e [.list 4 p,.list 4 (E++(qb 1 (.agg (kQ false [] false [] [])) [(0,(.agg (kQ A8 h B4 k [])))])),iI (w6 (A2+1))])) none)):=by kernel_rfl
theorem qn5:evF EnA (n+1) 122 (k5 f g a c e [.list 4 b])=q2e.l3 n [] n (k5 f g a c e [.list 4 b,.list 4 (qb 0 (.agg (kQ false [] false [] [])) []),iI 0]):=by kernel_rfl
def q43.l3(n:Nat):=Lp EnA n 123 [1,1,0,1,0]
theorem q43.qq:q43.l3 n [] (m+1) [.list 8 i,iL d,iI x,iL o,iI e] =
(cond (e<(i.length:Int)) (cond (e<(d.length:Int)) ((ix e i.length).bind λK=> (asStr (at' i K 0)).bind λu1=> (asInt .i64 (at' i K 1)).bind λn2=> (asInt .i64 (at' i K 2)).bind λM=> (asBool (at' i K 3)).bind λO=> (asInt .i64 (at' i K 4)).bind λn5=> (asLst 1 (at' i K 5)).bind λN=> (asInt .i64 (at' i K 6)).bind λn7=> (asInt .i64 (at' i K 7)).bind λn8=> (ix e d.length).bind λP=> (asBool (at' d P 0)).bind λQ=>
(cond (!Q) (q43.l3 n [] m [.list 8 i,iL d,iI x,iL o,iI (w6 (e+1))]) (cond (M<0) (q43.l3 n [] m [.list 8 i,iL d,iI x,iL o,iI (w6 (e+1))]) (cond (M≥(o.length:Int)) (q43.l3 n [] m [.list 8 i,iL d,iI x,iL o,iI (w6 (e+1))]) (cond (x<0) (q43.l3 n [] m [.list 8 i,iL d,iI x,iL o,iI (w6 (e+1))]) (cond (x≥(N.length:Int)) (q43.l3 n [] m [.list 8 i,iL d,iI x,iL o,iI (w6 (e+1))]) (cond O ((ix M o.length).bind λR=> (asInt .i64 (at' o R 0)).bind λS=> (ix x N.length).bind λT=> (asInt .i64 (at' N T 0)).bind λU=> (ix M o.length).bind λV=> q43.l3 n [] m [.list 8 i,iL d,iI x,iL (List.set o V (iI (w6 (S-U)))),iI (w6 (e+1))]) ((ix M o.length).bind λW=> (asInt .i64 (at' o W 0)).bind λX=> (ix x N.length).bind λY=> (asInt .i64 (at' N Y 0)).bind λZ=> (ix M o.length).bind λi20=> q43.l3 n [] m [.list 8 i,iL d,iI x,iL (List.set o i20 (iI (w6 (X+Z)))),iI (w6 (e+1))])))))))) (some [iL o])) (some [iL o])):=by kernel_rfl
theorem qn3:evF EnA (n+1) 123 (k5 f g a c e [.list 8 b,iL h,iI s])=(q1p 8 (if 0<(if 3<f then 3 else f)then(if 3<f then 3 else f)else 0)).bind λK=> (bd (if 0<(if 3<f then 3 else f)then(if 3<f then 3 else f)else 0) K).bind λM=> q43.l3 n [] n [.list 8 b,iL h,iI s,iL (List.replicate M (iI 0:FV)),iI 0]:=by kernel_rfl
theorem qsl:evF EnA (n+1) 124 [.bool F,iI g] =
(cond F (some [iI g]) (some [iI (w6 (0-g))])):=by kernel_rfl
end
end
end Rf
