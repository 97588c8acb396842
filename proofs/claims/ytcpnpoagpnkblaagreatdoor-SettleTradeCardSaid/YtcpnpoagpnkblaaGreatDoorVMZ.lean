/- Texts of this work put together, their blanks and comments taken out: EnvB, EqChk, Chk. -/
import Derived.Test.YtcpnpoagpnkblaaGreatDoorVMV
import Derived.Test.YtcpnpoagpnkblaaGreatDoorVMT
import Derived.Test.YtcpnpoagpnkblaaGreatDoorVMH
import Derived.KernelRfl
import Derived.Test.YtcpnpoagpnkblaaGreatDoorVMY
set_option linter.unusedVariables false
set_option linter.unusedSimpArgs false
section
/- The tables in which Check is computed: its pieces are contracts. -/
set_option maxRecDepth 100000
namespace Rf
open Go
noncomputable def bndExt(L:List FV):Option (List FV):=match limO EnA 100046 [.ref 26 (.agg L)]with
 |some [.bool b]=>some (L++[.bool b])
 |_=>none
def pieceF:List Nat:=[18,19,44,45,47,48,49,50,51,52,53,55,56,57,58,59,60,62]
noncomputable def extB:XT:=(46,bndExt)::(lims EnA pieceF++extN)
noncomputable def EnB:Env:=⟨Go.Proofs.Tryz.prog,fcT,tyT,fnT,λf=>lookN f extB⟩
theorem envOkB:qz EnB:=⟨λ_ _ h=>qb0 qb1 h,λ_ _ h=>List.all_eq_true.1 qb2 _ (q7j h),λ_ _ h=>qb3 qb4 h,Checked.mixed Go.Proofs.Tryz.checked⟩
def trT:List Tok:=[.int .i64,.int .i64,.lst 3,.int .i64,.int .i64,.lst 7,.lst 8,.lst 1,.lst 1,.lst 1,.lst 1,.str,.str,.bool,.int .i64,.lst 4,.own 1,.own 1,.lst 1,.bool,.lst 1,.bool,.lst 1,.bool,.lst 1,.bool]
theorem q8k{α:Type}{k f:Nat}{x g:α}{r:List (Nat×α)}(h:lookN f ((k,x)::r)=some g):(f=k/\x=g)\/lookN f r=some g:=by
 unfold lookN at h;cases hb:Nat.beq k f with
 |true=>rw[hb]at h;cases h;exact .inl ⟨(Nat.eq_of_beq_eq_true hb).symm,rfl⟩
 |false=>rw[hb]at h;exact .inr h
theorem extB_ok(hX:q4x En):q4x EnB:=by
 intro f g i L L' hf hi hL;have hf:lookN f ((46,bndExt)::(lims EnA pieceF++extN))=some g:=hf;rcases q8k hf with⟨rfl,rfl⟩ | hf
 ·have hi:fnT 46=some i:=hi;rw[show fnT 46=some ⟨.obj 26::trT,.obj 26::(trT++[.bool]),[]⟩ by kernel_rfl]at hi;cases hi;unfold bndExt at hL;split at hL
  ·rename_i b hb;cases hL;have h46:EnA.fn 100046=some ⟨[.fpt 26],[.skip,.bool],((fnT 100046).getD ⟨[],[],[]⟩).ann⟩:=by kernel_rfl
   obtain⟨q1,q2⟩:=q7k (E:=EnA) envOkA (extA_ok hX) h46 hb;have q3:q2j EnB.P 46 ⟨[.fpt 26],[.skip,.bool],((fnT 100046).getD ⟨[],[],[]⟩).ann⟩ [.ref 26 (.agg L)] [.bool b]:=q2;have q4:q2j EnB.P 46 ⟨.obj 26::trT,.obj 26::(trT++[.bool]),[]⟩ L (L++[.bool b]):=thaw (P:=EnB.P) (f:=46) (k:=26) (T:=trT) (i:=⟨[.fpt 26],[.skip,.bool],((fnT 100046).getD ⟨[],[],[]⟩).ann⟩) (j:=⟨.obj 26::trT,.obj 26::(trT++[.bool]),[]⟩) rfl rfl rfl rfl rfl rfl q3;exact⟨q1,q4⟩
  ·cases hL
 rcases qb5 hf with hf | hf
 ·rw[q7l hf]at hL;exact q7k envOkA (extA_ok hX) hi hL
 ·rw[q7l hf]at hL;exact q7k envOk hX hi hL
end Rf
end
section
/- Made by a program of this work: what each function comes to, one step of it; by the kernel. -/
set_option maxRecDepth 100000
set_option maxHeartbeats 4000000
namespace Rf
open Go
variable (n:Nat)
variable (j:Bool)
variable (e d q c a k l:List FV)
variable (p o:ByteArray)
variable (f g i b h:Int)
theorem qmb:evF EnB (n+1) 15 (k15 f g e i b d q c a k l p o j h [])=(evF EnB n 44 (k26 f g e i b d q c a k l p o j h [] [] [] [] false [] false [] false [] false [])).bind λr=> r27 r λs t u v w x y z A B C D E F G H I J K M N O P Q R S T=>
(cond (!T) (some [iI 1]) ((evF EnB n 45 (k26 s t u v w x y z A B C D E F G H I J K M N O P Q R S [])).bind λU=> r27 U λV W X Y Z v34 v35 v36 v37 v38 v39 u40 u41 c42 n43 v44 v45 v46 v47 c48 v49 c50 v51 c52 v53 c54 c55=>
(cond (!c55) (some [iI 2]) ((evF EnB n 46 (k26 V W X Y Z v34 v35 v36 v37 v38 v39 u40 u41 c42 n43 v44 v45 v46 v47 c48 v49 c50 v51 c52 v53 c54 [])).bind λr56=> r27 r56 λn57 n58 v59 n60 n61 v62 v63 v64 v65 v66 v67 u68 u69 c70 n71 v72 v73 v74 v75 c76 v77 c78 v79 c80 v81 c82 c83=>
(cond (!c83) (some [iI 3]) ((evF EnB n 47 (k26 n57 n58 v59 n60 n61 v62 v63 v64 v65 v66 v67 u68 u69 c70 n71 v72 v73 v74 v75 c76 v77 c78 v79 c80 v81 c82 [])).bind λr84=> r27 r84 λn85 n86 v87 n88 n89 v90 v91 v92 v93 v94 v95 u96 u97 c98 n99 v100 v101 v102 v103 c104 v105 c106 v107 c108 v109 c110 c111=>
(cond (!c111) (some [iI 4]) ((evF EnB n 48 (k26 n85 n86 v87 n88 n89 v90 v91 v92 v93 v94 v95 u96 u97 c98 n99 v100 v101 v102 v103 c104 v105 c106 v107 c108 v109 c110 [])).bind λr112=> r27 r112 λn113 n114 v115 n116 n117 v118 v119 v120 v121 v122 v123 u124 u125 c126 n127 v128 v129 v130 v131 c132 v133 c134 v135 c136 v137 c138 c139=>
(cond (!c139) (some [iI 5]) ((evF EnB n 49 (k26 n113 n114 v115 n116 n117 v118 v119 v120 v121 v122 v123 u124 u125 c126 n127 v128 v129 v130 v131 c132 v133 c134 v135 c136 v137 c138 [])).bind λr140=> r27 r140 λn141 n142 v143 n144 n145 v146 v147 v148 v149 v150 v151 u152 u153 c154 n155 v156 v157 v158 v159 c160 v161 c162 v163 c164 v165 c166 c167=>
(cond (!c167) (some [iI 6]) ((evF EnB n 50 (k26 n141 n142 v143 n144 n145 v146 v147 v148 v149 v150 v151 u152 u153 c154 n155 v156 v157 v158 v159 c160 v161 c162 v163 c164 v165 c166 [])).bind λr168=> r27 r168 λn169 n170 v171 n172 n173 v174 v175 v176 v177 v178 v179 u180 u181 c182 n183 v184 v185 v186 v187 c188 v189 c190 v191 c192 v193 c194 c195=>
(cond (!c195) (some [iI 7]) ((evF EnB n 51 (k26 n169 n170 v171 n172 n173 v174 v175 v176 v177 v178 v179 u180 u181 c182 n183 v184 v185 v186 v187 c188 v189 c190 v191 c192 v193 c194 [])).bind λr196=> r27 r196 λn197 n198 v199 n200 n201 v202 v203 v204 v205 v206 v207 u208 u209 c210 n211 v212 v213 v214 v215 c216 v217 c218 v219 c220 v221 c222 c223=>
(cond (!c223) (some [iI 8]) ((evF EnB n 52 (k26 n197 n198 v199 n200 n201 v202 v203 v204 v205 v206 v207 u208 u209 c210 n211 v212 v213 v214 v215 c216 v217 c218 v219 c220 v221 c222 [])).bind λr224=> r27 r224 λn225 n226 v227 n228 n229 v230 v231 v232 v233 v234 v235 u236 u237 c238 n239 v240 v241 v242 v243 c244 v245 c246 v247 c248 v249 c250 c251=>
(cond (!c251) (some [iI 9]) ((evF EnB n 53 (k26 n225 n226 v227 n228 n229 v230 v231 v232 v233 v234 v235 u236 u237 c238 n239 v240 v241 v242 v243 c244 v245 c246 v247 c248 v249 c250 [])).bind λr252=> r27 r252 λn253 n254 v255 n256 n257 v258 v259 v260 v261 v262 v263 u264 u265 c266 n267 v268 v269 v270 v271 c272 v273 c274 v275 c276 v277 c278 c279=>
(cond (!c279) (some [iI 10]) (some [iI 0])))))))))))))))))))):=by kernel_rfl
end Rf
end
section
/- CHECK: the program's answer and the document's are one. -/
set_option maxHeartbeats 4000000
set_option maxRecDepth 20000
namespace Rf
open Go
section
variable {g:q11} {ss:List StpV} {bs:List BlkV} {r:ResV}
theorem rd_T{L:List FV}{n0:Int}{n1:Int}{v2:List FV}{n3:Int}{n4:Int}{v5:List FV}{v6:List FV}{v7:List FV}{v8:List FV}{v9:List FV}{v10:List FV}{u11:ByteArray}{u12:ByteArray}{c13:Bool}{n14:Int}{v15:List FV}{v16:List FV}{v17:List FV}{v18:List FV}{c19:Bool}{v20:List FV}{c21:Bool}{v22:List FV}{c23:Bool}{v24:List FV}{c25:Bool}{c26:Bool}{K:(Int->Int->List FV->Int->Int->List FV->List FV->List FV->List FV->List FV->List FV->ByteArray->ByteArray->Bool->Int->List FV->List FV->List FV->List FV->Bool->List FV->Bool->List FV->Bool->List FV->Bool->Bool->Option (List FV))}(e:L=[iI n0,iI n1,.list 3 v2,iI n3,iI n4,.list 7 v5,.list 8 v6,iL v7,iL v8,iL v9,iL v10,.str u11,.str u12,.bool c13,iI n14,.list 4 v15,iL v16,iL v17,iL v18,.bool c19,iL v20,.bool c21,iL v22,.bool c23,iL v24,.bool c25,.bool c26]) :
  r27 L K=K n0 n1 v2 n3 n4 v5 v6 v7 v8 v9 v10 u11 u12 c13 n14 v15 v16 v17 v18 c19 v20 c21 v22 c23 v24 c25 c26:=by subst e;rfl
theorem evB{n f:Nat}{L R:List FV}(h:∀n,80000<=n->evF EnA n f L=some R)(e:evF EnB (n+1) f L=limO EnA f L):evF EnB (n+1) f L=some R:=by
 rw[e];exact q1v ⟨80000,h⟩
theorem b_shaped{n:Nat}(h:Sm g ss bs r):evF EnB (n+1) 44 (T0 g ss bs r [])=some (T0 g ss bs r [.bool (q6f g ss bs r)]):=evB (λn hn=>qkq h hn) (by kernel_rfl)
theorem b_read{n:Nat}(h:Sm g ss bs r)(hs:q3y g ss bs r) :
  (q20 r=true->evF EnB (n+1) 45 (T0 g ss bs r [])=some (T1 g ss bs r [.bool true])) /\
  (q20 r=false->∃x f p,evF EnB (n+1) 45 (T0 g ss bs r [])=some (Tg g ss bs r x f p (.list 1 []) (.bool false) (.list 1 []) (.bool false) (.list 1 []) (.bool false) (.list 1 []) (.bool false) [.bool false])):=by
 have e:evF EnB (n+1) 45 (T0 g ss bs r [])=limO EnA 45 (T0 g ss bs r []):=by kernel_rfl
 rw[e];constructor
 ·intro hr;exact q1v ⟨80000,λn hn=>(qfw h hs hn).1 hr⟩
 ·intro hr;exact⟨_,_,_,q1v ⟨80000,λn hn=>(qfw h hs hn).2 hr⟩⟩
theorem b_bounded{n:Nat}(G:q1y g ss bs r):evF EnB (n+1) 46 (T1 g ss bs r [])=some (T1 g ss bs r [.bool (q6q g ss r)]):=by
 have e:evF EnB (n+1) 46 (T1 g ss bs r [])=bndExt (T1 g ss bs r []):=by kernel_rfl
 rw[e];unfold bndExt;rw[show(FV.agg (T1 g ss bs r []))=frT g ss bs r from rfl,q1v (R:=[.bool (q6q g ss r)]) ⟨2000,λn hn=>qm5 G.sm G.sh G.read hn⟩];rfl
theorem qm6{n:Nat}(G:q1y g ss bs r):evF EnB (n+1) 47 (T1 g ss bs r [])=some (T1 g ss bs r [.bool (balV g ss bs r)]):=evB (λn hn=>qm7 G (by omega)) (by kernel_rfl)
theorem b_stepped{n:Nat}(G:q1y g ss bs r):evF EnB (n+1) 48 (T1 g ss bs r [])=some (T1 g ss bs r [.bool (q7t ss r)]):=evB (λn hn=>qm8 G (by omega)) (by kernel_rfl)
theorem b_lined{n:Nat}(G:q1y g ss bs r):evF EnB (n+1) 49 (T1 g ss bs r [])=some (T1 g ss bs r [.bool (q8r g r)]):=evB (λn hn=>lined_run G (by omega)) (by kernel_rfl)
theorem b_linked{n:Nat}(G:q1y g ss bs r):evF EnB (n+1) 50 (T1 g ss bs r [])=some (T1 g ss bs r [.bool (q3s bs r.accept)]):=evB (λn hn=>qm9 G.sm (by omega)) (by kernel_rfl)
theorem b_gaining{n:Nat}(G:q1y g ss bs r):evF EnB (n+1) 51 (T1 g ss bs r [])=some (T1 g ss bs r [.bool (q8s bs r)]):=evB (λn hn=>qma G (by omega)) (by kernel_rfl)
theorem b_worth{n:Nat}(G:q1y g ss bs r):evF EnB (n+1) 52 (T1 g ss bs r [])=some (T1 g ss bs r [.bool (q8t ss bs r)]):=evB (λn hn=>worth_run G (by omega)) (by kernel_rfl)
theorem b_upped{n:Nat}(G:q1y g ss bs r):evF EnB (n+1) 53 (T1 g ss bs r [])=some (T1 g ss bs r [.bool (upV r)]):=evB (λn hn=>upped_run G (by omega)) (by kernel_rfl)
theorem check_run{n:Nat}(h:Sm g ss bs r):evF EnB (n+2) 15 (gR g (.list 7 (ss.map StpV.fv)::.list 8 (bs.map BlkV.fv)::rL r []))=some [iF (chkV g ss bs r)]:=by
 rw[qmb,b_shaped h,Option.bind_some,rd_T rfl];unfold chkV;by_cases hs:q6f g ss bs r=true
 ·rw[hs,Bool.not_true,cond_false,if_neg (by simp)];have hs:=qcv.1 hs;obtain⟨r1,r2⟩:=b_read (n:=n) h hs;by_cases hr:q20 r=true
  ·have G:q1y g ss bs r:=⟨h,hs,hr⟩;rw[r1 hr,hr,if_neg (by simp),Option.bind_some,rd_T rfl];rw[Bool.not_true,cond_false,b_bounded G,Option.bind_some,rd_T rfl];by_cases h3:q6q g ss r=true
   ·rw[h3,Bool.not_true,cond_false,if_neg (by simp),qm6 G,Option.bind_some,rd_T rfl];by_cases h4:balV g ss bs r=true
    ·rw[h4,Bool.not_true,cond_false,if_neg (by simp),b_stepped G,Option.bind_some,rd_T rfl];by_cases h5:q7t ss r=true
     ·rw[h5,Bool.not_true,cond_false,if_neg (by simp),b_lined G,Option.bind_some,rd_T rfl];by_cases h6:q8r g r=true
      ·rw[h6,Bool.not_true,cond_false,if_neg (by simp),b_linked G,Option.bind_some,rd_T rfl];by_cases h7:q3s bs r.accept=true
       ·rw[h7,Bool.not_true,cond_false,if_neg (by simp),b_gaining G,Option.bind_some,rd_T rfl];by_cases h8:q8s bs r=true
        ·rw[h8,Bool.not_true,cond_false,if_neg (by simp),b_worth G,Option.bind_some,rd_T rfl];by_cases h9:q8t ss bs r=true
         ·rw[h9,Bool.not_true,cond_false,if_neg (by simp),b_upped G,Option.bind_some,rd_T rfl];by_cases h10:upV r=true
          ·rw[h10,Bool.not_true,cond_false,if_neg (by simp)]
          ·rw[Bool.eq_false_iff.2 h10,if_pos rfl];rfl
         ·rw[Bool.eq_false_iff.2 h9,if_pos rfl];rfl
        ·rw[Bool.eq_false_iff.2 h8,if_pos rfl];rfl
       ·rw[Bool.eq_false_iff.2 h7,if_pos rfl];rfl
      ·rw[Bool.eq_false_iff.2 h6,if_pos rfl];rfl
     ·rw[Bool.eq_false_iff.2 h5,if_pos rfl];rfl
    ·rw[Bool.eq_false_iff.2 h4,if_pos rfl];rfl
   ·rw[Bool.eq_false_iff.2 h3,if_pos rfl];rfl
  ·have hr:=Bool.eq_false_iff.2 hr;obtain⟨x,f,p,h0⟩:=r2 hr;rw[h0,hr,if_pos rfl,Option.bind_some,rd_T rfl];rfl
 ·rw[Bool.eq_false_iff.2 hs,if_pos rfl];rfl
end
end Rf
end
