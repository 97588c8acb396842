/- Texts of this work put together, their blanks and comments taken out: EnvB, EqChk, Chk. -/
import Derived.Test.YtcpnpoagpnkblaaGreatDoorOMV
import Derived.Test.YtcpnpoagpnkblaaGreatDoorOMT
import Derived.Test.YtcpnpoagpnkblaaGreatDoorOMH
import Derived.KernelRfl
import Derived.Test.YtcpnpoagpnkblaaGreatDoorOMY
set_option linter.unusedVariables false
set_option linter.unusedSimpArgs false
set_option maxRecDepth 100000
set_option maxHeartbeats 4000000
namespace Rf
open Go
section
noncomputable def bndExt(L:List FV):Option (List FV):=match limO EnA 100046 [.ref 26 (.agg L)]with
 |some [.bool b]=>some (L++[.bool b])
 |_=>none
def pieceF:List Nat:=[18,19,44,45,47,48,49,50,51,52,53,55,56,57,58,59,60,62]
noncomputable def extB:XT:=(46,bndExt)::(lims EnA pieceF++extN)
noncomputable def EnB:Env:=⟨Go.Proofs.Tryz.prog,fcT,tyT,fnT,λf=>lookN f extB⟩
theorem envOkB:q15 EnB:=⟨λ_ _ h=>qcz qd0 h,λ_ _ h=>Au.1 qd1 _ (q9a h),λ_ _ h=>qd2 qd3 h,Checked.mixed Go.Proofs.Tryz.checked⟩
def trT:List Tok:=[.int .i64,.int .i64,.lst 3,.int .i64,.int .i64,.lst 7,.lst 8,.lst 1,.lst 1,.lst 1,.lst 1,.str,.str,.bool,.int .i64,.lst 4,.own 1,.own 1,.lst 1,.bool,.lst 1,.bool,.lst 1,.bool,.lst 1,.bool]
theorem q9b{α:Type}{k f:Nat}{x g:α}{r:List (Nat×α)}(h:lookN f ((k,x)::r)=some g):(f=k/\x=g)\/lookN f r=some g:=by
 unfold lookN at h;cases hb:Nat.beq k f with
 |true=>rw[hb]at h;cases h;exact .inl ⟨(Aw hb).symm,rfl⟩
 |false=>rw[hb]at h;exact .inr h
theorem extB_ok(hX:q6k En):q6k EnB:=by
 intro f g i L L' hf hi hL;have hf:lookN f ((46,bndExt)::(lims EnA pieceF++extN))=some g:=hf;rcases q9b hf with⟨rfl,rfl⟩ | hf
 ·have hi:fnT 46=some i:=hi;rw[show fnT 46=some ⟨.obj 26::trT,.obj 26::(trT++[.bool]),[]⟩ by kernel_rfl]at hi;cases hi;unfold bndExt at hL;split at hL
  ·rename_i b hb;cases hL;have h46:EnA.fn 100046=some ⟨[.fpt 26],[.skip,.bool],((fnT 100046).getD ⟨[],[],[]⟩).ann⟩:=by kernel_rfl
   obtain⟨q1,q2⟩:=q9c (E:=EnA) envOkA (extA_ok hX) h46 hb;have q3:q31 EnB.P 46 ⟨[.fpt 26],[.skip,.bool],((fnT 100046).getD ⟨[],[],[]⟩).ann⟩ [.ref 26 (.agg L)] [.bool b]:=q2;have q4:q31 EnB.P 46 ⟨.obj 26::trT,.obj 26::(trT++[.bool]),[]⟩ L (L++[.bool b]):=thaw (P:=EnB.P) (f:=46) (k:=26) (T:=trT) (i:=⟨[.fpt 26],[.skip,.bool],((fnT 100046).getD ⟨[],[],[]⟩).ann⟩) (j:=⟨.obj 26::trT,.obj 26::(trT++[.bool]),[]⟩) rfl rfl rfl rfl rfl rfl q3;exact⟨q1,q4⟩
  ·cases hL
 rcases qd4 hf with hf | hf
 ·rw[q9d hf]at hL;exact q9c envOkA (extA_ok hX) hi hL
 ·rw[q9d hf]at hL;exact q9c envOk hX hi hL
end
section
variable (n m:Nat)
variable (u k:Bool)
variable (r v d w g i f c a b:List FV)
variable (t x h e:ByteArray)
variable (p q o l y s j:Int)
theorem qpy:evF EnB (n+1) 15 (k15 p q d o l g i f c a b h e k j [])=(evF EnB n 44 (k26 p q d o l g i f c a b h e k j [] [] [] [] false [] false [] false [] false [])).bind λz=> r27 z λA B C D E F G H I J K M N O P Q R S T U V W X Y Z c26 c27=>
(cond (!c27) (some [iI 1]) ((evF EnB n 45 (k26 A B C D E F G H I J K M N O P Q R S T U V W X Y Z c26 [])).bind λr28=> r27 r28 λn29 n30 v31 n32 n33 v34 v35 v36 v37 v38 v39 u40 u41 c42 n43 v44 v45 v46 v47 c48 v49 c50 v51 c52 v53 c54 c55=>
(cond (!c55) (some [iI 2]) ((evF EnB n 46 (k26 n29 n30 v31 n32 n33 v34 v35 v36 v37 v38 v39 u40 u41 c42 n43 v44 v45 v46 v47 c48 v49 c50 v51 c52 v53 c54 [])).bind λr56=> r27 r56 λn57 n58 v59 n60 n61 v62 v63 v64 v65 v66 v67 u68 u69 c70 n71 v72 v73 v74 v75 c76 v77 c78 v79 c80 v81 c82 c83=>
(cond (!c83) (some [iI 3]) ((evF EnB n 47 (k26 n57 n58 v59 n60 n61 v62 v63 v64 v65 v66 v67 u68 u69 c70 n71 v72 v73 v74 v75 c76 v77 c78 v79 c80 v81 c82 [])).bind λr84=> r27 r84 λn85 n86 v87 n88 n89 v90 v91 v92 v93 v94 v95 u96 u97 c98 n99 v100 v101 v102 v103 c104 v105 c106 v107 c108 v109 c110 c111=>
(cond (!c111) (some [iI 4]) ((evF EnB n 48 (k26 n85 n86 v87 n88 n89 v90 v91 v92 v93 v94 v95 u96 u97 c98 n99 v100 v101 v102 v103 c104 v105 c106 v107 c108 v109 c110 [])).bind λr112=> r27 r112 λn113 n114 v115 n116 n117 v118 v119 v120 v121 v122 v123 u124 u125 c126 n127 v128 v129 v130 v131 c132 v133 c134 v135 c136 v137 c138 c139=>
(cond (!c139) (some [iI 5]) ((evF EnB n 49 (k26 n113 n114 v115 n116 n117 v118 v119 v120 v121 v122 v123 u124 u125 c126 n127 v128 v129 v130 v131 c132 v133 c134 v135 c136 v137 c138 [])).bind λr140=> r27 r140 λn141 n142 v143 n144 n145 v146 v147 v148 v149 v150 v151 u152 u153 c154 n155 v156 v157 v158 v159 c160 v161 c162 v163 c164 v165 c166 c167=>
(cond (!c167) (some [iI 6]) ((evF EnB n 50 (k26 n141 n142 v143 n144 n145 v146 v147 v148 v149 v150 v151 u152 u153 c154 n155 v156 v157 v158 v159 c160 v161 c162 v163 c164 v165 c166 [])).bind λr168=> r27 r168 λn169 n170 v171 n172 n173 v174 v175 v176 v177 v178 v179 u180 u181 c182 n183 v184 v185 v186 v187 c188 v189 c190 v191 c192 v193 c194 c195=>
(cond (!c195) (some [iI 7]) ((evF EnB n 51 (k26 n169 n170 v171 n172 n173 v174 v175 v176 v177 v178 v179 u180 u181 c182 n183 v184 v185 v186 v187 c188 v189 c190 v191 c192 v193 c194 [])).bind λr196=> r27 r196 λn197 n198 v199 n200 n201 v202 v203 v204 v205 v206 v207 u208 u209 c210 n211 v212 v213 v214 v215 c216 v217 c218 v219 c220 v221 c222 c223=>
(cond (!c223) (some [iI 8]) ((evF EnB n 52 (k26 n197 n198 v199 n200 n201 v202 v203 v204 v205 v206 v207 u208 u209 c210 n211 v212 v213 v214 v215 c216 v217 c218 v219 c220 v221 c222 [])).bind λr224=> r27 r224 λn225 n226 v227 n228 n229 v230 v231 v232 v233 v234 v235 u236 u237 c238 n239 v240 v241 v242 v243 c244 v245 c246 v247 c248 v249 c250 c251=>
(cond (!c251) (some [iI 9]) ((evF EnB n 53 (k26 n225 n226 v227 n228 n229 v230 v231 v232 v233 v234 v235 u236 u237 c238 n239 v240 v241 v242 v243 c244 v245 c246 v247 c248 v249 c250 [])).bind λr252=> r27 r252 λn253 n254 v255 n256 n257 v258 v259 v260 v261 v262 v263 u264 u265 c266 n267 v268 v269 v270 v271 c272 v273 c274 v275 c276 v277 c278 c279=>
(cond (!c279) (some [iI 10]) (some [iI 0])))))))))))))))))))):=by kernel_rfl
noncomputable def q54.l22(n:Nat):=Lp EnB n 17 [1,1,1,1,1,1,1,1,1,1,1,1,1,1,0,1,0]
theorem q54.l22_eq:q54.l22 n [] (m+1) (k8 r v d w t x u y [.list 7 c,.list 8 a,iL b,iI s]) =
(cond (s<(a.length:Int)) ((ix s a.length).bind λz=> (asStr (at' a z 0)).bind λF=> (asInt .i64 (at' a z 1)).bind λG=> (asInt .i64 (at' a z 2)).bind λH=> (asBool (at' a z 3)).bind λI=> (asInt .i64 (at' a z 4)).bind λJ=> (asLst 1 (at' a z 5)).bind λK=> (asInt .i64 (at' a z 6)).bind λM=> (asInt .i64 (at' a z 7)).bind λN=> (evF EnB n 61 (kB F G H I J K M N [iL w])).bind λE=> (asStr E[0]?).bind λO=>(asInt .i64 E[1]?).bind λn11=>(ix s r.length).bind λP=> (asBool (at' r P 0)).bind λQ=>
(cond Q ((q2q O 0).bind λR=>
(cond (R==45) (some [iI 8]) (q54.l22 n [] m (k8 r v d w t x u y [.list 7 c,.list 8 a,iL b,iI (w6 (s+1))])))) (q54.l22 n [] m (k8 r v d w t x u y [.list 7 c,.list 8 a,iL b,iI (w6 (s+1))])))) ((evF EnB n 62 [.list 7 c,iL v,.list 8 a,iL r]).bind λS=> (asStr S[0]?).bind λT=>
(cond (!(T.toList==t.toList)) (some [iI 9]) ((ix 1 b.length).bind λU=> (asLst 4 (at' b U 0)).bind λA=> (ix 1 A.length).bind λC=> (asBool (at' A C 0)).bind λV=> (asLst 1 (at' A C 1)).bind λW=> (asBool (at' A C 2)).bind λX=> (asLst 1 (at' A C 3)).bind λY=> (ix 1 b.length).bind λZ=> (asLst 4 (at' b Z 0)).bind λB=> (ix 0 B.length).bind λD=> (asBool (at' B D 0)).bind λc27=> (asLst 1 (at' B D 1)).bind λv28=> (asBool (at' B D 2)).bind λc29=> (asLst 1 (at' B D 3)).bind λv30=> (evF EnB n 32 (kQ V W X Y (kQ c27 v28 c29 v30 []))).bind λr31=> (asInt .i64 (r31[0]?)).bind λn32=>
(cond (n32<0) (some [iI 10]) (cond u (cond (!(x.toList==t.toList)) (some [iI 10]) (some [iI 0])) (some [iI 0]))))))):=by kernel_rfl
theorem qq2:evF EnB (n+1) 17 (k15 p q d o l g i f c a b h e k j [])=(evF EnB n 55 (k15 p q d o l g i f c a b h e k j [])).bind λG=> (asBool G[0]?).bind λH=>
(cond (!H) (some [iI 1]) ((evF EnB n 56 [iL (qd 2 (iL []) [(0,(iL c)),(1,(iL (qd 2 (.str { data:=#[] }) [(0,(.str h)),(1,(.str e))])))])]).bind λC=> (asLst 1 C[0]?).bind λz=>(asBool C[1]?).bind λI=>(evF EnB n 56 [iL a]).bind λD=> (asLst 1 D[0]?).bind λE=>(asBool D[1]?).bind λJ=>(evF EnB n 56 [iL b]).bind λF=> (asLst 1 F[0]?).bind λA=>(asBool F[1]?).bind λK=>
(cond (!I) (some [iI 2]) (cond (!J) (some [iI 2]) (cond (!K) (some [iI 2]) ((ix 0 z.length).bind λM=> (asLst 4 (at' z M 0)).bind λB=> (evF EnB n 57 (k5 p q d o l (.list 7 g::.list 4 B::k8 f c a b h e k j [iL A]))).bind λN=> (asBool N[0]?).bind λO=>
(cond (!O) (some [iI 3]) ((evF EnB n 58 (k15 p q d o l g i f c a b h e k j [.list 4 B,iL E])).bind λP=> (asBool P[0]?).bind λQ=>
(cond (!Q) (some [iI 4]) ((evF EnB n 59 [.list 7 g,.list 4 B,iL A]).bind λR=> (asBool R[0]?).bind λS=>
(cond (!S) (some [iI 5]) ((evF EnB n 60 (k5 p q d o l [iL E,iL A])).bind λT=> (asBool T[0]?).bind λU=>
(cond (!U) (some [iI 6]) ((evF EnB n 21 [.list 8 i,iL f]).bind λV=> (asBool V[0]?).bind λW=>
(cond (!W) (some [iI 7]) (q54.l22 n [] n (k8 f c a b h e k j [.list 7 g,.list 8 i,iL z,iI 0]))))))))))))))))):=by kernel_rfl
end
section
section
variable {g:q10} {ss:List StpV} {bs:List BlkV} {r:ResV}
theorem rd_T{L:List FV}{n0:Int}{n1:Int}{v2:List FV}{n3:Int}{n4:Int}{v5:List FV}{v6:List FV}{v7:List FV}{v8:List FV}{v9:List FV}{v10:List FV}{u11:ByteArray}{u12:ByteArray}{c13:Bool}{n14:Int}{v15:List FV}{v16:List FV}{v17:List FV}{v18:List FV}{c19:Bool}{v20:List FV}{c21:Bool}{v22:List FV}{c23:Bool}{v24:List FV}{c25:Bool}{c26:Bool}{K:(Int->Int->List FV->Int->Int->List FV->List FV->List FV->List FV->List FV->List FV->ByteArray->ByteArray->Bool->Int->List FV->List FV->List FV->List FV->Bool->List FV->Bool->List FV->Bool->List FV->Bool->Bool->Option (List FV))}(e:L=[iI n0,iI n1,.list 3 v2,iI n3,iI n4,.list 7 v5,.list 8 v6,iL v7,iL v8,iL v9,iL v10,.str u11,.str u12,.bool c13,iI n14,.list 4 v15,iL v16,iL v17,iL v18,.bool c19,iL v20,.bool c21,iL v22,.bool c23,iL v24,.bool c25,.bool c26]) :
  r27 L K=K n0 n1 v2 n3 n4 v5 v6 v7 v8 v9 v10 u11 u12 c13 n14 v15 v16 v17 v18 c19 v20 c21 v22 c23 v24 c25 c26:=by subst e;rfl
theorem evB{n f:Nat}{L R:List FV}(h:∀n,80000<=n->evF EnA n f L=some R)(e:evF EnB (n+1) f L=limO EnA f L):evF EnB (n+1) f L=some R:=by
 rw[e];exact q1j ⟨80000,h⟩
theorem b_shaped{n:Nat}(h:Sm g ss bs r):evF EnB (n+1) 44 (T0 g ss bs r [])=some (T0 g ss bs r [.bool (q5a g ss bs r)]):=evB (λn hn=>qnv h hn) (by kernel_rfl)
theorem b_read{n:Nat}(h:Sm g ss bs r)(hs:q37 g ss bs r) :
  (q1u r=true->evF EnB (n+1) 45 (T0 g ss bs r [])=some (T1 g ss bs r [.bool true])) /\
  (q1u r=false->∃x f p,evF EnB (n+1) 45 (T0 g ss bs r [])=some (Tg g ss bs r x f p (.list 1 []) (.bool false) (.list 1 []) (.bool false) (.list 1 []) (.bool false) (.list 1 []) (.bool false) [.bool false])):=by
 have e:evF EnB (n+1) 45 (T0 g ss bs r [])=limO EnA 45 (T0 g ss bs r []):=by kernel_rfl
 rw[e];constructor
 ·intro hr;exact q1j ⟨80000,λn hn=>(qih h hs hn).1 hr⟩
 ·intro hr;exact⟨_,_,_,q1j ⟨80000,λn hn=>(qih h hs hn).2 hr⟩⟩
theorem b_bounded{n:Nat}(G:q1d g ss bs r):evF EnB (n+1) 46 (T1 g ss bs r [])=some (T1 g ss bs r [.bool (q4b g ss r)]):=by
 have e:evF EnB (n+1) 46 (T1 g ss bs r [])=bndExt (T1 g ss bs r []):=by kernel_rfl
 rw[e];unfold bndExt;rw[show(FV.agg (T1 g ss bs r []))=frT g ss bs r from rfl,q1j (R:=[.bool (q4b g ss r)]) ⟨2000,λn hn=>qps G.sm G.sh G.read hn⟩];rfl
theorem qpt{n:Nat}(G:q1d g ss bs r):evF EnB (n+1) 47 (T1 g ss bs r [])=some (T1 g ss bs r [.bool (balV g ss bs r)]):=evB (λn hn=>qpu G (by omega)) (by kernel_rfl)
theorem b_stepped{n:Nat}(G:q1d g ss bs r):evF EnB (n+1) 48 (T1 g ss bs r [])=some (T1 g ss bs r [.bool (q4l ss r)]):=evB (λn hn=>qpv G (by omega)) (by kernel_rfl)
theorem b_lined{n:Nat}(G:q1d g ss bs r):evF EnB (n+1) 49 (T1 g ss bs r [])=some (T1 g ss bs r [.bool (q7f g r)]):=evB (λn hn=>lined_run G (by omega)) (by kernel_rfl)
theorem b_linked{n:Nat}(G:q1d g ss bs r):evF EnB (n+1) 50 (T1 g ss bs r [])=some (T1 g ss bs r [.bool (q4n bs r.accept)]):=evB (λn hn=>qpw G.sm (by omega)) (by kernel_rfl)
theorem b_gaining{n:Nat}(G:q1d g ss bs r):evF EnB (n+1) 51 (T1 g ss bs r [])=some (T1 g ss bs r [.bool (q5o bs r)]):=evB (λn hn=>qpx G (by omega)) (by kernel_rfl)
theorem b_worth{n:Nat}(G:q1d g ss bs r):evF EnB (n+1) 52 (T1 g ss bs r [])=some (T1 g ss bs r [.bool (q9l ss bs r)]):=evB (λn hn=>worth_run G (by omega)) (by kernel_rfl)
theorem b_upped{n:Nat}(G:q1d g ss bs r):evF EnB (n+1) 53 (T1 g ss bs r [])=some (T1 g ss bs r [.bool (upV r)]):=evB (λn hn=>upped_run G (by omega)) (by kernel_rfl)
theorem check_run{n:Nat}(h:Sm g ss bs r):evF EnB (n+2) 15 (gR g (.list 7 (ss.map StpV.fv)::.list 8 (bs.map BlkV.fv)::rL r []))=some [iF (chkV g ss bs r)]:=by
 rw[qpy,b_shaped h,Ae,rd_T rfl];unfold chkV;by_cases hs:q5a g ss bs r=true
 ·rw[hs,Am,Ab,if_neg (by simp)];have hs:=qey.1 hs;obtain⟨r1,r2⟩:=b_read (n:=n) h hs;by_cases hr:q1u r=true
  ·have G:q1d g ss bs r:=⟨h,hs,hr⟩;rw[r1 hr,hr,if_neg (by simp),Ae,rd_T rfl];rw[Am,Ab,b_bounded G,Ae,rd_T rfl];by_cases h3:q4b g ss r=true
   ·rw[h3,Am,Ab,if_neg (by simp),qpt G,Ae,rd_T rfl];by_cases h4:balV g ss bs r=true
    ·rw[h4,Am,Ab,if_neg (by simp),b_stepped G,Ae,rd_T rfl];by_cases h5:q4l ss r=true
     ·rw[h5,Am,Ab,if_neg (by simp),b_lined G,Ae,rd_T rfl];by_cases h6:q7f g r=true
      ·rw[h6,Am,Ab,if_neg (by simp),b_linked G,Ae,rd_T rfl];by_cases h7:q4n bs r.accept=true
       ·rw[h7,Am,Ab,if_neg (by simp),b_gaining G,Ae,rd_T rfl];by_cases h8:q5o bs r=true
        ·rw[h8,Am,Ab,if_neg (by simp),b_worth G,Ae,rd_T rfl];by_cases h9:q9l ss bs r=true
         ·rw[h9,Am,Ab,if_neg (by simp),b_upped G,Ae,rd_T rfl];by_cases h10:upV r=true
          ·rw[h10,Am,Ab,if_neg (by simp)]
          ·rw[AI.2 h10,if_pos rfl];rfl
         ·rw[AI.2 h9,if_pos rfl];rfl
        ·rw[AI.2 h8,if_pos rfl];rfl
       ·rw[AI.2 h7,if_pos rfl];rfl
      ·rw[AI.2 h6,if_pos rfl];rfl
     ·rw[AI.2 h5,if_pos rfl];rfl
    ·rw[AI.2 h4,if_pos rfl];rfl
   ·rw[AI.2 h3,if_pos rfl];rfl
  ·have hr:=AI.2 hr;obtain⟨x,f,p,h0⟩:=r2 hr;rw[h0,hr,if_pos rfl,Ae,rd_T rfl];rfl
 ·rw[AI.2 hs,if_pos rfl];rfl
theorem w_shape{n:Nat}(h:Sm g ss bs r):evF EnB (n+1) 55 (gR g (.list 7 (ss.map StpV.fv)::.list 8 (bs.map BlkV.fv)::rL r []))=some [.bool (q5a g ss bs r)]:=evB (λn hn=>qod h hn) (by kernel_rfl)
theorem w_read{P:List (List Txt)}{n:Nat}(hP:P.length<=256)(hl:∀l,l∈P->Few l):evF EnB (n+1) 56 [.list 1 (P.map rowF)]=some (if P.all (·.all isNum)=true then [.list 1 (P.map q11),.bool true]else [.list 1 [],.bool false]):=evB (λn hn=>by rw[wread_run hP hl (by omega)];split <;> rfl) (by kernel_rfl)
theorem w_bounds{n:Nat}(G:q1d g ss bs r):evF EnB (n+1) 57 (gR g (.list 7 (ss.map StpV.fv)::.list 4 (r.x.map λt=>qo (rd t))::rL r [.list 1 (r.p.map q11)]))=some [.bool (q4b g ss r)]:=evB (λn hn=>qoj G (by omega)) (by kernel_rfl)
theorem w_balance{n:Nat}(G:q1d g ss bs r):evF EnB (n+1) 58 (gR g (.list 7 (ss.map StpV.fv)::.list 8 (bs.map BlkV.fv)::rL r [.list 4 (r.x.map λt=>qo (rd t)),.list 1 (r.f.map q11)]))=some [.bool (balV g ss bs r)]:=evB (λn hn=>qo7 G (by omega)) (by kernel_rfl)
theorem w_steps{n:Nat}(G:q1d g ss bs r):evF EnB (n+1) 59 [.list 7 (ss.map StpV.fv),.list 4 (r.x.map λt=>qo (rd t)),.list 1 (r.p.map q11)]=some [.bool (q4l ss r)]:=evB (λn hn=>qo9 G (by omega)) (by kernel_rfl)
theorem w_lines{n:Nat}(G:q1d g ss bs r):evF EnB (n+1) 60 (gR g [.list 1 (r.f.map q11),.list 1 (r.p.map q11)])=some [.bool (q7f g r)]:=evB (λn hn=>qob G (by omega)) (by kernel_rfl)
theorem w_welfare{n:Nat}(G:q1d g ss bs r):evF EnB (n+1) 62 [.list 7 (ss.map StpV.fv),.list 1 (r.x.map sF),.list 8 (bs.map BlkV.fv),.list 1 (r.accept.map .bool)]=some [sF (qx (welV ss bs r))]:=evB (λn hn=>qpz G (by omega)) (by kernel_rfl)
theorem w_links{n:Nat}(h:Sm g ss bs r):evF EnB (n+1) 21 [.list 8 (bs.map BlkV.fv),.list 1 (r.accept.map .bool)]=some [.bool (q4n bs r.accept)]:=by
 have e:evF EnB (n+1) 21 [.list 8 (bs.map BlkV.fv),.list 1 (r.accept.map .bool)]=limO En 21 [.list 8 (bs.map BlkV.fv),.list 1 (r.accept.map .bool)]:=by kernel_rfl
 rw[e];have:=h.bsl;exact q1j (qp6 (by omega))
theorem w_surplus{n:Nat}(G:q1d g ss bs r){b:BlkV}(hb:b∈bs):evF EnB (n+1) 61 [.str b.who,iF b.seq,iF b.zone,.bool b.buy,iF b.qe,.list 1 (b.qty.map iF),iF b.parent,iF b.group,.list 1 (r.p.map rowF)]=some [sF (qx (q5p b r)),iF 0]:=by
 have e:evF EnB (n+1) 61 [.str b.who,iF b.seq,iF b.zone,.bool b.buy,iF b.qe,.list 1 (b.qty.map iF),iF b.parent,iF b.group,.list 1 (r.p.map rowF)]=evF EnA (n+1) 61 [.str b.who,iF b.seq,iF b.zone,.bool b.buy,iF b.qe,.list 1 (b.qty.map iF),iF b.parent,iF b.group,.list 1 (r.p.map rowF)]:=by kernel_rfl
 rw[e,w_surp G hb]
theorem w_cmpB{n:Nat}{q q':Rat}(hq:Sz q)(hr:Sz q'):evF EnB (n+1) 32 [zb (q).num,wl (q).num,.bool false,wL (q).den,zb (q').num,wl (q').num,.bool false,wL (q').den]=some [iF (cmpQ q q')]:=by
 have e:evF EnB (n+1) 32 [zb (q).num,wl (q).num,.bool false,wL (q).den,zb (q').num,wl (q').num,.bool false,wL (q').den]=evF EnA (n+1) 32 [zb (q).num,wl (q).num,.bool false,wL (q).den,zb (q').num,wl (q').num,.bool false,wL (q').den]:=by kernel_rfl
 rw[e,q4k hq hr (qb _) (qb _)]
theorem qq0(q:Rat):∃c:UInt8,(qx q)[0]?=some c/\(c=45↔q<0):=by
 have hd:∀m:Nat,∃c:UInt8,(ql m)[0]?=some c/\c≠45:=λm=>by
  have hp:=qg3 m;have h0:0<(ql m).length:=by omega
  refine⟨(ql m)[0],Ag h0,λe=>?_⟩;exact qg4 isD_45 (q6n m) (by rw[<- e];exact Ah h0)
 have hz:∃c:UInt8,(qu q.num)[0]?=some c/\(c=45↔q.num<0):=by
  unfold qu;by_cases h:q.num<0
  ·rw[if_pos h];exact⟨45,rfl,λ_=>h,λ_=>rfl⟩
  ·rw[if_neg h];obtain⟨c,h1,h2⟩:=hd q.num.natAbs;exact⟨c,h1,λe=>absurd e h2,λe=>absurd e h⟩
 have hn:q.num<0↔q<0:=by rw[<- Cb,<- DL];omega
 obtain⟨c,h1,h2⟩:=hz;refine⟨c,?_,h2.trans hn⟩;unfold qx;split
 ·exact h1
 ·rw[Da (Ao.1 h1).1];exact h1
theorem u8_45(c:UInt8):(((c.toNat:Nat):Int)==45)=decide (c=45):=by
 rw[Bm,Bu,As];constructor
 ·intro h;apply Dt.1;show c.toNat=45;omega
 ·intro h;rw[h];rfl
theorem qq1{n:Nat}(G:q1d g ss bs r):q54.l22 (n+100) [] (n+100) (rL r [.list 7 (ss.map StpV.fv),.list 8 (bs.map BlkV.fv),.list 1 ([r.x,[r.qn,r.upper]].map q11),iF 0])=some [iF (if q5o bs r=false then 8 else if q9l ss bs r=false then 9 else if upV r=false then 10 else 0)]:=by
 obtain⟨o1,o2⟩:=q7e G.sh.ord;have la:=G.sh.ac;obtain⟨_,nw,nu,_⟩:=G.num
 have e:=q21 (F:=λm i=>q54.l22 (n+100) [] m (rL r [.list 7 (ss.map StpV.fv),.list 8 (bs.map BlkV.fv),.list 1 ([r.x,[r.qn,r.upper]].map q11),iF (i:Int)])) (len:=bs.length) (P:=gainAt bs r) (fin:=some [iF (if q9l ss bs r=false then 9 else if upV r=false then 10 else 0)]) (stop:=some [iF 8]) (λm i hi=>by
  show q54.l22 (n+100) [] (m+1) _=_;have hi2:i<r.accept.length:=by omega
  obtain⟨c,c1,c2⟩:=qq0 (q5p bs[i] r);rw[q54.l22_eq];simp only[Aa];rw[Af,Ac,q9 hi,q9 hi2];simp only[q2g hi,rr];rw[w_surplus (n:=n+99) G (Ah hi)];simp only[q4z hi2,rr];rw[show(0:Int)=((0:Nat):Int) from rfl,q4g,c1];simp only[AD,Ae];rw[u8_45,qc];unfold gainAt;rw[Ag hi,Ag hi2];cases r.accept[i]with
  |false=>rfl
  |true =>
   simp only;by_cases hg:q5p bs[i] r<0
   ·rw[Af (c2.2 hg),Ad (Cb.2 hg)];rfl
   ·rw[Ad (λq=>hg (c2.1 q)),Af (Ci.1 hg)];rfl) (λm=>by
  show q54.l22 (n+100) [] (m+1) _=_;rw[q54.l22_eq];simp only[Aa];rw[Ad,Ab,w_welfare (n:=n+99) G];simp only[rr];rw[q3d,q3d];unfold q9l;by_cases h9:qx (welV ss bs r)=r.qn
  ·rw[Af h9,Am,Ab,if_neg (by simp)];show((asBool (at' ([rd r.qn,rd r.upper].map qo) 1 0)).bind λc20=>(asLst 1 (at' ([rd r.qn,rd r.upper].map qo) 1 1)).bind λv21=>(asBool (at' ([rd r.qn,rd r.upper].map qo) 1 2)).bind λc22=>(asLst 1 (at' ([rd r.qn,rd r.upper].map qo) 1 3)).bind λv23=>(asBool (at' ([rd r.qn,rd r.upper].map qo) 0 0)).bind λc27=>(asLst 1 (at' ([rd r.qn,rd r.upper].map qo) 0 1)).bind λv28=>(asBool (at' ([rd r.qn,rd r.upper].map qo) 0 2)).bind λc29=>(asLst 1 (at' ([rd r.qn,rd r.upper].map qo) 0 3)).bind λv30=>(evF EnB (n+100) 32 [.bool c20,.list 1 v21,.bool c22,.list 1 v23,.bool c27,.list 1 v28,.bool c29,.list 1 v30]).bind λr31=>(asInt .i64 (r31[0]?)).bind λn32=>(bif(decide (n32<0))then some [iF 10]else(bif r.q86 then(bif(!decide (r.upper=r.qn))then some [iF 10]else some [iF 0])else some [iF 0])))=_
   rw[show at' ([rd r.qn,rd r.upper].map qo) 1 0=some (zb (rd r.upper).num) from rfl,show at' ([rd r.qn,rd r.upper].map qo) 1 1=some (wl (rd r.upper).num) from rfl,show at' ([rd r.qn,rd r.upper].map qo) 1 2=some (.bool false) from rfl,show at' ([rd r.qn,rd r.upper].map qo) 1 3=some (wL (rd r.upper).den) from rfl,
    show at' ([rd r.qn,rd r.upper].map qo) 0 0=some (zb (rd r.qn).num) from rfl,show at' ([rd r.qn,rd r.upper].map qo) 0 1=some (wl (rd r.qn).num) from rfl,show at' ([rd r.qn,rd r.upper].map qo) 0 2=some (.bool false) from rfl,show at' ([rd r.qn,rd r.upper].map qo) 0 3=some (wL (rd r.qn).den) from rfl]
   simp only[rr];rw[w_cmpB (n:=n+99) (q1s G.sm.u) (q1s G.sm.w)];simp only[rr];rw[q3y];unfold upV;by_cases hlt:rd r.upper<rd r.qn
   ·rw[Af hlt,Ad (p:=rd r.qn<=rd r.upper) (Cb.2 hlt)];rfl
   ·rw[Ad hlt,Af (p:=rd r.qn<=rd r.upper) (Ci.1 hlt)];cases r.q86 <;> cases decide (r.upper=r.qn) <;> rfl
  ·rw[Ad h9]
   rfl) bs.length 0 (n+100) (by omega) (by omega)
 have e:q54.l22 (n+100) [] (n+100) (rL r [.list 7 (ss.map StpV.fv),.list 8 (bs.map BlkV.fv),.list 1 ([r.x,[r.qn,r.upper]].map q11),iF 0])=_:=e;rw[e,show q5o bs r=(List.range' 0 bs.length).all (gainAt bs r) from rfl];cases(List.range' 0 bs.length).all (gainAt bs r) <;> rfl
theorem qju{n:Nat}(h:Sm g ss bs r):evF EnB (n+101) 17 (gR g (.list 7 (ss.map StpV.fv)::.list 8 (bs.map BlkV.fv)::rL r []))=some [iF (chkV g ss bs r)]:=by
 have few:Few r.x:=⟨h.xl,h.x⟩
 have fewo:Few [r.qn,r.upper]:=⟨by simp,λt ht=>by
  rcases Ar.1 ht with rfl | ht
  ·exact h.w
  ·rw[BN.1 ht];exact h.u⟩
 have d1:=w_read (P:=[r.x,[r.qn,r.upper]]) (n:=n+99) (by simp) (λl hl=>by
  rcases Ar.1 hl with rfl | hl
  ·exact few
  ·rw[BN.1 hl];exact fewo)
 have d2:=w_read (P:=r.f) (n:=n+99) h.fl h.f;have d3:=w_read (P:=r.p) (n:=n+99) h.pl h.p;rw[qq2,w_shape (n:=n+99) h];simp only[rr];unfold chkV;by_cases hs:q5a g ss bs r=true
 ·rw[hs,Am,Ab,if_neg (by simp)];have hs:=qey.1 hs;have hrv:q1u r=([r.x,[r.qn,r.upper]].all (·.all isNum)&&r.f.all (·.all isNum)&&r.p.all (·.all isNum)):=by
   unfold q1u;simp only[Bk,EM,CH];cases r.x.all isNum <;> cases isNum r.qn <;> cases isNum r.upper <;> cases r.f.all (·.all isNum) <;> cases r.p.all (·.all isNum) <;> rfl
  rw[show qd 2 (.list 1 []) [(0,.list 1 (r.x.map sF)),(1,.list 1 (qd 2 (.str { data:=#[] }) [(0,sF r.qn),(1,sF r.upper)]))]=[r.x,[r.qn,r.upper]].map rowF from rfl,d1,d2,d3];by_cases hr:q1u r=true
  ·have G:q1d g ss bs r:=⟨h,hs,hr⟩;have hr2:=hr;rw[hrv]at hr2;simp only[Ai]at hr2;obtain⟨⟨a1,a2⟩,a3⟩:=hr2;rw[if_pos a1,if_pos a2,if_pos a3,hr,if_neg (by simp)];simp only[rr];rw[show(!true)=false from rfl,Ab,Ab,Ab,show ix 0 (List.map q11 [r.x,[r.qn,r.upper]]).length=some 0 from rfl,Ae,show at' (List.map q11 [r.x,[r.qn,r.upper]]) 0 0=some (.list 4 (r.x.map λt=>qo (rd t))) from rfl,qy,Ae,w_bounds (n:=n+99) G];simp only[rr];by_cases h3:q4b g ss r=true
   ·rw[h3,Am,Ab,if_neg (by simp),w_balance (n:=n+99) G];simp only[rr];by_cases h4:balV g ss bs r=true
    ·rw[h4,Am,Ab,if_neg (by simp),w_steps (n:=n+99) G];simp only[rr];by_cases h5:q4l ss r=true
     ·rw[h5,Am,Ab,if_neg (by simp),w_lines (n:=n+99) G];simp only[rr];by_cases h6:q7f g r=true
      ·rw[h6,Am,Ab,if_neg (by simp),w_links (n:=n+99) G.sm];simp only[rr];by_cases h7:q4n bs r.accept=true
       ·rw[h7,Am,Ab,if_neg (by simp)];exact qq1 (n:=n) G
       ·rw[AI.2 h7,if_pos rfl];rfl
      ·rw[AI.2 h6,if_pos rfl];rfl
     ·rw[AI.2 h5,if_pos rfl];rfl
    ·rw[AI.2 h4,if_pos rfl];rfl
   ·rw[AI.2 h3,if_pos rfl];rfl
  ·have hr:=AI.2 hr;rw[hr,if_pos rfl];rw[hrv]at hr;cases a1:[r.x,[r.qn,r.upper]].all (·.all isNum)with
   |false =>
    cases a2:r.f.all (·.all isNum) <;> cases a3:r.p.all (·.all isNum) <;> rfl
   |true =>
    rw[a1]at hr;cases a2:r.f.all (·.all isNum)with
    |false=>cases a3:r.p.all (·.all isNum) <;> rfl
    |true =>
     rw[a2]at hr;cases a3:r.p.all (·.all isNum)with
     |false=>rfl
     |true=>rw[a3]at hr;cases hr
 ·rw[AI.2 hs,if_pos rfl];rfl
end
end
end Rf
