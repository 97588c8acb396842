/- Merged: RfTab Rf1 Rf2 Rf3 Rf4 Rf5 Rf6 Rf7 Rf8 Rf9 Rf10 Rf11 Rf12 Rf13. -/
import GoSem.Claims
import Derived.Calls
import Derived.Orders
import Derived.Laws.Sem
import Derived.Below
import Derived.MapKept
import Derived.Laws.Cells
import Derived.Laws.CopyRow
import Derived.Laws.MakeOwn
import Derived.Great.BuildSlice
import Derived.Laws.BytesArg
set_option linter.unusedVariables false
set_option linter.unusedSimpArgs false
namespace Rf
open Go
def pow10s:List Int:=[1,10,100,1000,10000,100000,1000000,10000000,100000000,1000000000,10000000000,100000000000,1000000000000,10000000000000,100000000000000,1000000000000000,10000000000000000,100000000000000000,1000000000000000000,10000000000000000000]
def tabs:List (Nat×Array Value):=[(0,(pow10s.map λz=>Value.int .u64 z).toArray)]
end Rf
section
namespace Rf
abbrev w6:=Go.IntKind.wrap .i64
abbrev Aa:=@List.length_map
abbrev Ab:=@cond_false
abbrev Ac:=@cond_true
theorem Ad{p:Prop}[Decidable p](h:¬p:=by omega):decide p=false:=decide_eq_false h
abbrev Ae:=@Option.bind_some
theorem Af{p:Prop}[Decidable p](h:p:=by omega):decide p=true:=decide_eq_true h
abbrev Ag:=@List.getElem?_eq_getElem
abbrev Ah:=@List.getElem_mem
abbrev Ai:=@Bool.and_eq_true
abbrev Aj:=@List.getElem?_cons_zero
abbrev Ak:=@Nat.le_refl
abbrev Al:=@List.cons_append
abbrev Am:=@List.getElem?_eq_some_iff
abbrev Ao:=@Bool.not_true
abbrev Ap:=@List.append_assoc
abbrev Aq:=@List.length_cons
abbrev Ar:=@List.mem_cons
abbrev As:=@List.nil_append
abbrev At:=@decide_eq_true_eq
abbrev Au:=@List.drop_zero
abbrev Av:=@List.all_eq_true
abbrev Aw:=@Nat.eq_of_beq_eq_true
abbrev Ax:=@Nat.pow_succ
abbrev Ay:=@Nat.add_zero
abbrev Az:=@Array.getD_eq_getD_getElem?
abbrev AA:=@Bool.true_and
abbrev AB:=@Nat.mul_comm
abbrev AC:=@List.mem_cons_of_mem
abbrev AD:=@List.getD_eq_getElem?_getD
abbrev AE:=@Option.map_some
abbrev AF:=@Nat.mul_add
abbrev AG:=@Nat.zero_add
abbrev AH:=@Option.some.injEq
abbrev AI:=@Bool.eq_false_iff
abbrev AJ:=@List.mem_cons_self
abbrev AK:=@List.map_append
abbrev AL:=@Nat.mod_eq_of_lt
abbrev AM:=@Nat.mod_lt
abbrev AN:=@List.append_nil
abbrev AO:=@List.drop_of_length_le
abbrev AP:=@List.getElem?_cons_succ
abbrev AQ:=@List.mem_of_getElem?
abbrev AR:=@Nat.lt_of_lt_of_le
abbrev AS:=@List.map_cons
abbrev AT:=@Nat.mul_le_mul_right
abbrev AU:=@Nat.add_mul
abbrev AV:=@Nat.mul_assoc
abbrev AW:=@Nat.pow_le_pow_right
abbrev AX:=@Bool.not_false
abbrev AY:=@List.cons.injEq
abbrev AZ:=@List.length_append
abbrev Ba:=@if_true
abbrev Bb:=@Nat.le_trans
abbrev Bc:=@List.drop_eq_getElem_cons
abbrev Be:=@List.length_nil
abbrev Bf:=@List.foldl_cons
abbrev Bg:=@Option.getD_some
abbrev Bh:=@Int.toNat_natCast
abbrev Bi:=@beq_self_eq_true
abbrev Bj:=@List.take_length
abbrev Bk:=@List.all_cons
abbrev Bl:=@Nat.add_assoc
abbrev Bm:=@Bool.eq_iff_iff
abbrev Bn:=@Nat.add_comm
abbrev Bo:=@Array.getElem?_eq_getElem
abbrev Bp:=@List.mem_map
abbrev Bq:=@beq_eq_false_iff_ne
abbrev Br:=@List.getElem?_map
abbrev Bs:=@Bool.false_eq_true
abbrev Bt:=@Nat.eq_zero_or_pos
abbrev Bu:=@List.mem_iff_getElem?
abbrev Bv:=@beq_iff_eq
abbrev Bw:=@Prod.mk.injEq
abbrev Bx:=@Nat.pow_pos
abbrev By:=@List.length_singleton
abbrev Bz:=@Array.length_toList
abbrev BA:=@Array.getElem?_toList
abbrev BB:=@Nat.le_of_ble_eq_true
abbrev BC:=@Int.natAbs_neg
abbrev BD:=@List.mem_append
abbrev BE:=@Nat.mul_le_mul_left
abbrev BF:=@List.length_take
abbrev BG:=@List.map_nil
abbrev BH:=@List.eq_nil_of_length_eq_zero
abbrev BI:=@Nat.lt_of_le_of_lt
abbrev BJ:=@List.length_replicate
abbrev BK:=@List.mem_singleton
abbrev BL:=@Nat.zero_le
abbrev BM:=@if_false
abbrev BN:=@Nat.div_lt_of_lt_mul
abbrev BO:=@Nat.div_lt_iff_lt_mul
abbrev BP:=@List.singleton_append
abbrev BQ:=@Eq.trans
abbrev BR:=@Ne.symm
abbrev BS:=@List.range'_succ
abbrev BT:=@Bool.false_or
abbrev BU:=@Classical.byContradiction
abbrev BW:=@decide_eq_decide
abbrev BX:=@List.take_append_drop
abbrev BY:=@Option.map_eq_some_iff
abbrev BZ:=@dif_pos
abbrev Ca:=@Nat.one_mul
abbrev Cb:=@Nat.pow_add
abbrev Cc:=@List.length_range
abbrev Cd:=@List.replicate_succ
abbrev Ce:=@Int.natAbs_mul
abbrev Cf:=@dif_neg
abbrev Cg:=@List.mem_range'_1
abbrev Ch:=@Rat.not_le
abbrev Ci:=@Nat.mul_zero
abbrev Cj:=@Bool.false_and
abbrev Ck:=@Int.sign_eq_one_of_pos
abbrev Cl:=@Nat.mul_succ
abbrev Cm:=@Bool.not_eq_true'
abbrev Cn:=@Nat.sub_self
abbrev Co:=@List.replicate_zero
abbrev Cp:=@Rat.num_divInt_den
abbrev Cq:=@List.getElem?_append
abbrev Cr:=@Nat.mod_add_div
abbrev Cs:=@List.mem_range
abbrev Ct:=@List.map_map
abbrev Cu:=@Rat.not_lt
abbrev Cv:=@Nat.div_lt_self
abbrev Cw:=@Nat.mul_le_mul
abbrev Cy:=@List.mem_of_mem_drop
abbrev Cz:=@Nat.gcd_comm
abbrev CA:=@List.replicate_succ'
abbrev CB:=@List.getElem?_drop
abbrev CC:=@Int.natAbs_natCast
abbrev CD:=@Option.bind_eq_some_iff
abbrev CE:=@Bool.and_false
abbrev CF:=@bne_iff_ne
abbrev CG:=@Bool.and_true
abbrev CH:=@Option.none_or
abbrev CI:=@List.eq_of_mem_replicate
abbrev CJ:=@List.mem_of_mem_take
abbrev CL:=@List.getElem?_zip_eq_some
abbrev CM:=@List.getElem?_take_of_lt
abbrev CN:=@Int.sign_eq_neg_one_of_neg
abbrev CO:=@List.map_congr_left
abbrev CP:=@List.take_zero
abbrev CQ:=@List.getElem?_append_right
abbrev CR:=@List.take_of_length_le
abbrev CS:=@Nat.div_eq_of_lt
abbrev CT:=@Nat.le_of_lt
abbrev CU:=@true_and
abbrev CV:=@not_true_eq_false
abbrev CW:=@bne_self_eq_false
abbrev CX:=@List.length_pos_iff
abbrev CY:=@Bool.true_or
abbrev CZ:=@Array.ext'
abbrev Da:=@Int.lt_or_le
abbrev Db:=@Nat.succ_mul
abbrev Dc:=@Nat.ble_eq_true_of_le
abbrev Dd:=@Array.getElem?_eq_none
abbrev De:=@List.length_eq_zero_iff
abbrev Df:=@Nat.le_of_not_lt
abbrev Dh:=@List.eq_nil_or_concat
abbrev Di:=@List.getElem?_eq_none
abbrev Dj:=@Nat.lt_or_ge
abbrev Dk:=@Nat.zero_mul
abbrev Dl:=@List.getElem?_take
abbrev Dm:=@Nat.div_le_self
abbrev Dn:=@List.getElem?_append_left
abbrev Do:=@UInt8.toNat_inj
abbrev Dp:=@BitVec.ofInt_natCast
abbrev Dq:=@BitVec.ofNat_toNat
abbrev Dr:=@BitVec.setWidth_eq
abbrev Ds:=@List.getElem?_toArray
abbrev Dt:=@List.mem_or_eq_of_mem_set
abbrev Du:=@Nat.add_mul_mod_self_left
abbrev Dv:=@List.all_append
abbrev Dw:=@List.take_add_one
abbrev Dx:=@Array.getElem?_setIfInBounds_ne
abbrev Dy:=@List.length_drop
abbrev Dz:=@Nat.div_add_mod
abbrev DA:=@decide_true
abbrev DB:=@Rat.intCast_add
abbrev DC:=@Rat.intCast_lt_intCast
abbrev DD:=@Rat.num_nonneg
abbrev DE:=@List.mem_append_right
abbrev DF:=@List.pairwise_cons
abbrev DG:=@List.any_cons
abbrev DH:=@Array.toList_map
abbrev DI:=@Bool.not_not
abbrev DJ:=@Nat.mul_one
abbrev DK:=@List.head?_cons
abbrev DL:=@Nat.mul_left_comm
abbrev DM:=@List.takeWhile_cons
abbrev DN:=@List.dropWhile_cons
abbrev DO:=@Bool.or_eq_true
abbrev DP:=@List.any_eq_false
abbrev DQ:=@Array.getElem?_setIfInBounds_self_of_lt
abbrev DR:=@List.take_append_of_le_length
abbrev DS:=@List.replicate_append_replicate
abbrev DT:=@Nat.gcd_zero_right
abbrev DU:=@Nat.gcd_rec
abbrev DV:=@Nat.mul_add_mod
abbrev DW:=@List.countP_pos_iff
abbrev DX:=@false_and
abbrev DY:=@and_true
abbrev DZ:=@not_false_eq_true
abbrev Ea:=@Int.tmod_lt_of_pos
abbrev Eb:=@Decidable.byContradiction
abbrev Ec:=@Nat.sub_zero
abbrev Ed:=@Option.some.inj
abbrev Ee:=@BitVec.msb_eq_decide
abbrev Ef:=@List.mem_append_left
abbrev Eg:=@Nat.le_mul_of_pos_right
abbrev Eh:=@List.drop_length
abbrev Ei:=@List.map_id
abbrev Ej:=@List.findIdx?_eq_some_iff_getElem
abbrev Ek:=@List.getElem_of_mem
abbrev Em:=@List.any_eq_not_all_not
abbrev Eo:=@List.drop_left'
abbrev Ep:=@List.mapM_cons
abbrev Er:=@List.reverse_append
abbrev Es:=@Nat.pow_zero
abbrev Et:=@Int.tmod_eq_emod_of_nonneg
abbrev Eu:=@Nat.pow_le_pow_left
abbrev Ew:=@List.tail_cons
abbrev Ex:=@Nat.div_mul_le_self
abbrev Ey:=@Nat.one_lt_two_pow
abbrev Ez:=@Option.isSome_iff_exists
abbrev EA:=@List.concat_eq_append
abbrev EB:=@Nat.add_sub_cancel
abbrev EC:=@Nat.mul_lt_mul_of_pos_left
abbrev ED:=@List.all_nil
abbrev EE:=@Array.foldl_toList
abbrev EF:=@List.mem_filter
abbrev EG:=@List.length_range'
abbrev EH:=@List.getElem?_range
abbrev EI:=@Rat.intCast_neg
abbrev EJ:=@List.map_replicate
abbrev EK:=@Nat.mul_add_div
abbrev EL:=@Nat.lt_or_gt_of_ne
abbrev EM:=@Nat.eq_or_lt_of_le
abbrev EN:=@Int.neg_tmod
abbrev EO:=@Nat.lt_irrefl
abbrev EP:=@Int.lt_or_gt_of_ne
abbrev EQ:=@Nat.min_eq_left
abbrev ER:=@List.mem_replicate
abbrev ES:=@Nat.add_le_add_left
abbrev ET:=@List.getElem?_set
abbrev EU:=@Array.getElem?_eq_some_iff
abbrev EV:=@Array.getElem?_append_left
abbrev EW:=@List.not_lt
abbrev EX:=@List.lt_trans
abbrev EY:=@getElem!_pos
abbrev EZ:=@List.getElem_toArray
abbrev Fa:=@List.take_succ_eq_append_getElem
abbrev Fb:=@List.mergeSort_perm
abbrev Fc:=@List.getElem?_set_self
abbrev Fd:=@List.getElem?_set_ne
abbrev Fe:=@List.findIdx?_eq_none_iff
abbrev Ff:=@List.take_left'
abbrev Fg:=@List.drop_eq_nil_of_le
abbrev Fh:=@List.length_set
abbrev Fi:=@List.take_succ_cons
abbrev Fj:=@Nat.mul_lt_mul_of_pos_right
abbrev Fk:=@List.length_reverse
abbrev Fl:=@List.reverse_cons
abbrev Fm:=@Nat.two_pow_pos
abbrev Fo:=@Nat.add_mul_div_left
abbrev Fq:=@Nat.add_mod_right
abbrev Fr:=@List.mem_reverse
abbrev Fs:=@Array.getElem?_push_lt
abbrev Ft:=@Array.all_eq_true_iff_forall_mem
abbrev Fu:=@Nat.le_div_iff_mul_le
abbrev Fv:=@List.set_append_right
abbrev Fw:=@Int.ediv_emod_unique
abbrev Fx:=@Int.sign_eq_zero_iff_zero
abbrev Fy:=@Rat.mul_lt_mul_right
abbrev Fz:=@Nat.gcd_pos_of_pos_right
abbrev FA:=@Array.getElem?_replicate
abbrev FB:=@List.length_filter_le
abbrev FC:=@Option.isNone_iff_eq_none
abbrev FD:=@Array.toArray_toList
abbrev FE:=@List.head?_eq_getElem?
abbrev FF:=@Int.tdiv_eq_ediv_of_dvd
abbrev FG:=@Nat.lt_of_mul_lt_mul_right
abbrev FH:=@Nat.le_mul_of_pos_left
abbrev FI:=@List.reverse_reverse
abbrev FJ:=@List.length_eq_one_iff
open Go
inductive FV where
 |int (k:IntKind) (n:Int)
 |bool (b:Bool)
 |str (s:ByteArray)
 |raw (v:Value)
 |list (sz:Nat) (xs:List FV)
 |agg (cs:List FV)
 |ref (sz:Nat) (x:FV)
 deriving Inhabited
def FV.cells:FV->List FV
 |.agg cs=>cs
 |v=>[v]
def FV.flat:FV->Bool
 |.agg _=>false
 |.raw v=>v.oneCell'
 |_=>true
inductive SV where
 |fv (v:FV)
 |ptr (id off:Nat)
 |ept (id sz i c:Nat)
 |sl (id:Nat) (view:Option (Nat×Nat))
 |fp (sz:Nat) (xs:List FV) (i c:Nat)
 |mp (id:Nat)
 |clo (fn:Fn) (first caps:List SV)
 |agg (cs:List SV)
 |tup (vs:List SV)
 |nilS
 |dead
 |gone
 deriving Inhabited
inductive Key where
 |slot (t:Nat)
 |head (id:Nat)
 |cell (id off:Nat)
 deriving DecidableEq
def Key.beq:Key->Key->Bool
 |.slot a,.slot b=>Nat.beq a b
 |.head a,.head b=>Nat.beq a b
 |.cell a o,.cell b p=>Nat.beq a b&&Nat.beq o p
 |_,_=>false
inductive CK where
 |int (k:IntKind)
 |bool
 |str
 |lst (sz:Nat)
 |raw (v:Value)
inductive Ent where
 |sv (v:SV)
 |vec (sz:Nat) (xs:List FV)
 |frz (sz:Nat) (xs:List FV)
 |obj (n:Nat)
 |mapH (kag:Bool) (ks:List CK) (z:FV)
 |map (es:List FV) (clk:Int)
 |tomb
 deriving Inhabited
def Ent.row:Ent->Option (Nat×Nat)
 |.vec sz xs | .frz sz xs=>some (sz,xs.length)
 |_=>none
abbrev Mem:=List (Key×Ent)
def Mem.get(k:Key):Mem->Option Ent
 |[]=>none
 |(k',e)::r=>bif k.beq k' then some e else Mem.get k r
inductive RT:Type where
 |ret (us:List (Key×Ent))
 |fail
 |rd (k:Key) (f:Ent->RT)
 |fresh (id:Nat) (t:RT)
 |int (x:Option Int) (f:Int->RT)
 |nat (x:Option Nat) (f:Nat->RT)
 |boo (x:Option Bool) (f:Bool->RT)
 |str (x:Option ByteArray) (f:ByteArray->RT)
 |lst (x:Option (List FV)) (f:List FV->RT)
 |cnd (b:Bool) (t e:RT)
abbrev Res:=Option (List FV)
def RT.run(M:Mem):RT->List Key->(List (Key×Ent)->List Key->Res)->Res
 |.ret us,lg,K=>K us lg
 |.fail,_,_=>none
 |.rd k f,lg,K=>match M.get k with
  |some e=>(f e).run M (k::lg) K
  |none=>none
 |.fresh id t,lg,K=>match M.get (.head id)with
  |some _=>none
  |none=>t.run M (.head id::lg) K
 |.int x f,lg,K=>x.bind λn=>(f n).run M lg K
 |.nat x f,lg,K=>x.bind λn=>(f n).run M lg K
 |.boo x f,lg,K=>x.bind λn=>(f n).run M lg K
 |.str x f,lg,K=>x.bind λn=>(f n).run M lg K
 |.lst x f,lg,K=>x.bind λn=>(f n).run M lg K
 |.cnd b t e,lg,K=>cond b (t.run M lg K) (e.run M lg K)
def RT.get(M:Mem):RT->Option (List (Key×Ent)×List Key)
 |.ret us=>some (us,[])
 |.fail=>none
 |.rd k f=>match M.get k with
  |some e=>((f e).get M).map λr=>(r.1,k::r.2)
  |none=>none
 |.fresh id t=>match M.get (.head id)with
  |some _=>none
  |none=>(t.get M).map λr=>(r.1,.head id::r.2)
 |.int x f=>x.bind λn=>(f n).get M
 |.nat x f=>x.bind λn=>(f n).get M
 |.boo x f=>x.bind λn=>(f n).get M
 |.str x f=>x.bind λn=>(f n).get M
 |.lst x f=>x.bind λn=>(f n).get M
 |.cnd b t e=>cond b (t.get M) (e.get M)
structure TyI where
 size:Nat
 bytes:Nat
 agg:Bool
 ck:List CK
 elem:Nat
 flds:List (Nat×Nat)
 key:Nat:=0
def CK.zero:CK->FV
 |.int k=>.int k 0
 |.bool=>.bool false
 |.str=>.str ⟨#[]⟩
 |.lst sz=>.list sz []
 |.raw v=>.raw v
def TyI.q28(t:TyI):List FV:=t.ck.map CK.zero
def TyI.q1e(t:TyI):FV:=bif t.agg then .agg t.q28 else(t.q28.headD (.agg []))
def CK.zeroS:CK->SV
 |.lst _=>.nilS
 |k=>.fv k.zero
def TyI.q7g(t:TyI):List SV:=t.ck.map CK.zeroS
inductive Tok where
 |int (k:IntKind)
 |bool
 |str
 |lst (sz:Nat)
 |raw (v:Value)
 |skip
 |own (sz:Nat)
 |obj (k:Nat)
 |ref (j:Nat)
 |agg (k:Nat)
 |clo (fn:Fn) (k:Nat)
 |fn
 |fpt (sz:Nat)
 |mapt (kag:Bool) (ks:List CK) (z:FV)
structure FnI where
 tin:List Tok
 tout:List Tok
 ann:List (Nat×List Nat×List Tok)
structure Env where
 P:Program
 fc:Nat->Option Func
 ty:Nat->Option TyI
 fn:Nat->Option FnI
 ext:Nat->Option (List FV->Option (List FV))
def lookN{α:Type}(t:Nat):List (Nat×α)->Option α
 |[]=>none
 |(k,x)::r=>bif Nat.beq k t then some x else lookN t r
def at'(xs:List FV)(i c:Nat):Option FV:=(xs[i]?).bind λx=>x.cells[c]?
def asInt(k:IntKind):Option FV->Option Int
 |some (.int k' n)=>if k'=k then some n else none
 |_=>none
def asBool:Option FV->Option Bool
 |some (.bool b)=>some b
 |_=>none
def asStr:Option FV->Option ByteArray
 |some (.str s)=>some s
 |_=>none
def asLst(sz:Nat):Option FV->Option (List FV)
 |some (.list s xs)=>if s=sz then some xs else match xs with | []=>some [] | _=>none
 |_=>none
def asRef(sz:Nat):Option FV->Option (List FV)
 |some (.ref s x)=>if s=sz then some [x]else none
 |_=>none
def hd1(xs:List FV):FV:=xs.headD (.agg [])
def ix(i:Int)(n:Nat):Option Nat:=if 0<=i/\i<n then some i.toNat else none
def bd(i:Int)(n:Nat):Option Nat:=if 0<=i/\i<=n then some i.toNat else none
def q1p(bytes:Nat)(n:Int):Option Nat:=if 0<=n/\bytes*n<=140737488355328/\n<=140737488355328 then some n.toNat else none
def q2p(s:ByteArray)(i:Int):Option Int:=if 0<=i then(s[i.toNat]?).map λb=>(b.toNat:Int)else none
def bitI(op:BinOp)(k:IntKind)(x y:Int):Int :=
 let a:=BitVec.ofInt k.bits x
 let b:=BitVec.ofInt k.bits y
 k.wrap ((match op with | .and=>a &&& b | .or=>a ||| b | .xor=>a ^^^ b | _=>a &&& ~~~b).toNat)
def shI(left:Bool)(k:IntKind)(x y:Int):Int:=bif left then k.wrap (x*2^(min y.toNat k.bits))else x.fdiv (2^(min y.toNat k.bits))
def bytesO(xs:List FV):Option ByteArray:=if xs.all (λx=>match x with | .int .u8 _=>true | _=>false)=true then some ⟨(xs.map λx=>match x with | .int _ n=>UInt8.ofNat n.toNat | _=>0).toArray⟩ else none
def setC(xs:List FV)(i c:Nat)(v:FV):List FV :=
 match xs[i]? with
 |some (.agg cs)=>xs.set i (.agg (cs.set c v))
 |_=>xs.set i v
def keq1:FV->FV->Bool
 |.int _ a,.int _ b=>a==b
 |.bool a,.bool b=>a==b
 |.str a,.str b=>a.toList==b.toList
 |_,_=>false
def keqs:List FV->List FV->Bool
 |[],[]=>true
 |a::as,b::bs=>keq1 a b&&keqs as bs
 |_,_=>false
def keq(a b:FV):Bool:=keqs a.cells b.cells
def entKey:FV->FV
 |.agg [k,_,_]=>k
 |_=>.agg []
def q4x:FV->FV
 |.agg [_,v,_]=>v
 |_=>.agg []
def entBorn:FV->Int
 |.agg [_,_,.int _ b]=>b
 |_=>0
def mhas(es:List FV)(k:FV):Bool:=es.any λe=>keq k (entKey e)
def mgetD:List FV->FV->FV->FV
 |[],_,z=>z
 |e::es,k,z=>bif keq k (entKey e)then q4x e else mgetD es k z
def mput:List FV->FV->FV->Int->List FV
 |[],k,v,c=>[.agg [k,v,.int .i64 c]]
 |e::es,k,v,c=>bif keq k (entKey e)then .agg [k,v,.int .i64 (entBorn e)]::es else e::mput es k v c
def mclk(es:List FV)(k:FV)(c:Int):Int:=bif mhas es k then c else c+1
def ment:List FV->FV->FV->Int->List FV
 |[],k,z,c=>[.agg [k,z,.int .i64 c]]
 |e::es,k,z,c=>bif keq k (entKey e)then .agg [k,q4x e,.int .i64 (entBorn e)]::es else e::ment es k z c
def mborn:List FV->FV->Int->Int
 |[],_,c=>c
 |e::es,k,c=>bif keq k (entKey e)then entBorn e else mborn es k c
def q5g(es:List FV)(b:Int):Bool:=es.any λe=>entBorn e==b
def msetB:List FV->Int->FV->List FV
 |[],_,_=>[]
 |e::es,b,v=>bif entBorn e==b then .agg [entKey e,v,.int .i64 (entBorn e)]::es else e::msetB es b v
def mdel:List FV->FV->List FV
 |[],_=>[]
 |e::es,k=>bif keq k (entKey e)then es else e::mdel es k
def kfit:CK->FV->Bool
 |.int .i8,.int .i8 _ | .int .i16,.int .i16 _ | .int .i32,.int .i32 _ | .int .i64,.int .i64 _ | .int .u8,.int .u8 _ | .int .u16,.int .u16 _ | .int .u32,.int .u32 _ | .int .u64,.int .u64 _=>true
 |.bool,.bool _=>true
 |.str,.str _=>true
 |_,_=>false
def kfits:List CK->List FV->Bool
 |[],[]=>true
 |c::cs,x::xs=>kfit c x&&kfits cs xs
 |_,_=>false
def FV.isAgg:FV->Bool
 |.agg _=>true
 |_=>false
def q2k(kag:Bool)(ks:List CK)(k:FV):Bool:=(bif kag then k.isAgg else !k.isAgg)&&kfits ks k.cells
def q32(z v:FV):Bool:=(bif z.isAgg then v.isAgg else !v.isAgg)&&Nat.beq v.cells.length z.cells.length&&v.cells.all FV.flat
def constSV:Value->SV
 |.int k n=>.fv (.int k n)
 |.bool b=>.fv (.bool b)
 |.string s=>.fv (.str s)
 |.slice none 0 0=>.nilS
 |v=>.fv (.raw v)
def opd(x:Operand)(f:SV->RT):RT :=
 match x with
 |.tmp t=>.rd (.slot t) λe=>match e with | .sv v=>f v | _=>.fail
 |.const v=>f (constSV v)
 |.global _=>.fail
 |.func g=>f (.fv (.raw (.func (.func g) #[] #[])))
def opds:List Operand->(List SV->RT)->RT
 |[],f=>f []
 |x::r,f=>opd x λv=>opds r λvs=>f (v::vs)
def lstOf(sz:Nat):FV->Option (List FV)
 |.list s xs=>bif Nat.beq s sz then some xs else match xs with | []=>some [] | _=>none
 |_=>none
def q2y(id:Nat)(f:Ent->RT):RT:=.rd (.head id) f
def seq(sz:Nat)(v:SV)(f:List FV->RT):RT :=
 match v with
 |.nilS=>f []
 |.fv x=>match lstOf sz x with | some xs=>f xs | none=>.fail
 |.sl id view=>q2y id λe=>match e with
  |.vec s xs | .frz s xs=>bif Nat.beq s sz then(match view with | none=>f xs | some (o,n)=>f ((xs.drop o).take n))else .fail
  |_=>.fail
 |_=>.fail
def frz1(v:SV)(f:FV->List (Key×Ent)->RT):RT :=
 match v with
 |.nilS=>f (.list 0 []) []
 |.fv x=>bif x.flat then f x []else .fail
 |.sl id view=>q2y id λe=>match e with
  |.vec s xs | .frz s xs=>(match view with | none=>f (.list s xs) [(.head id,.frz s xs)] | some (o,n)=>f (.list s ((xs.drop o).take n)) [(.head id,.frz s xs)])
  |_=>.fail
 |_=>.fail
def frzs:List SV->(List FV->List (Key×Ent)->RT)->RT
 |[],f=>f [] []
 |v::r,f=>frz1 v λx us=>frzs r λxs us'=>f (x::xs) (us++us')
def frz(v:SV)(f:FV->List (Key×Ent)->RT):RT :=
 match v with
 |.agg cs=>frzs cs λxs us=>f (.agg xs) us
 |v=>frz1 v f
def rdFV(x:Option FV)(ck:CK)(f:SV->RT):RT :=
 match ck with
 |.int k=>.int (asInt k x) λn=>f (.fv (.int k n))
 |.bool=>.boo (asBool x) λb=>f (.fv (.bool b))
 |.str=>.str (asStr x) λs=>f (.fv (.str s))
 |.lst sz=>.lst (asLst sz x) λxs=>f (.fv (.list sz xs))
 |.raw _=>.fail
def rdFVs(xs:List FV)(i:Nat):Nat->List CK->(List SV->RT)->RT
 |_,[],f=>f []
 |c,k::r,f=>rdFV (at' xs i c) k λv=>rdFVs xs i (c+1) r λvs=>f (v::vs)
def q7r(t:TyI)(xs:List FV)(i c:Nat)(f:SV->RT):RT :=
 bif t.agg then rdFVs xs i c t.ck λvs=>f (.agg vs)else match t.ck with | [k]=>rdFV (at' xs i c) k f | _=>.fail
def rdCells(id:Nat):Nat->Nat->(List SV->RT)->RT
 |_,0,f=>f []
 |off,n+1,f=>.rd (.cell id off) λe=>match e with | .sv v=>rdCells id (off+1) n λvs=>f (v::vs) | _=>.fail
def load(t:TyI)(a:SV)(f:SV->RT):RT :=
 match a with
 |.ptr id off=>q2y id λe=>match e with
  |.obj n=>bif Nat.ble (off+t.size) n then(bif t.agg then rdCells id off t.size λvs=>f (.agg vs)else .rd (.cell id off) λe=>match e with | .sv v=>f v | _=>.fail)else .fail
  |_=>.fail
 |.fp sz xs i c=>bif Nat.ble (c+t.size) sz then q7r t xs i c f else .fail
 |.ept id sz i c=>q2y id λe=>match e with
  |.vec s xs | .frz s xs=>bif Nat.beq s sz&&Nat.ble (c+t.size) sz then q7r t xs i c f else .fail
  |_=>.fail
 |_=>.fail
def live(x:SV)(t:RT):RT :=
 match x with
 |.ptr id _=>q2y id λe=>match e with | .obj _=>t | _=>.fail
 |.ept id _ _ _=>q2y id λe=>match e with | .vec _ _ | .frz _ _=>t | _=>.fail
 |.fp _ _ _ _=>t
 |_=>.fail
def SV.cells:SV->List SV
 |.agg cs=>cs
 |v=>[v]
def wrCells(id:Nat):Nat->List SV->List (Key×Ent)
 |_,[]=>[]
 |off,v::r=>(.cell id off,.sv v)::wrCells id (off+1) r
def SV.flat:SV->Bool
 |.fv x=>x.flat
 |.agg _ | .tup _ | .dead | .gone=>false
 |_=>true
def lives:List SV->RT->RT
 |[],t=>t
 |v::r,t=>match v with
  |.ptr id _ | .ept id _ _ _ | .sl id _ | .mp id=>q2y id λe=>match e with | .tomb=>.fail | _=>lives r t
  |_=>lives r t
def apart1(id:Nat):List (Key×Ent)->Bool
 |[]=>true
 |(.head i,_)::r=>!(Nat.beq i id)&&apart1 id r
 |_::_=>false
def store(t:TyI)(a x:SV):RT :=
 match a with
 |.ptr id off=>q2y id λe=>match e with
  |.obj n=>bif Nat.ble (off+t.size) n&&Nat.beq x.cells.length t.size&&x.cells.all SV.flat then lives x.cells (.ret (wrCells id off x.cells))else .fail
  |_=>.fail
 |.ept id sz i c=>q2y id λe=>match e with
  |.vec s xs=>bif Nat.beq s sz&&Nat.beq x.cells.length t.size then
    (bif Nat.beq c 0&&Nat.beq t.size sz then frz x λy us=>bif apart1 id us then .ret ((.head id,.vec s (xs.set i y))::us)else .fail
     else bif Nat.beq t.size 1&&Nat.ble (c+1) sz&&!t.agg then frz1 x λy us=>bif apart1 id us then .ret ((.head id,.vec s (setC xs i c y))::us)else .fail else .fail)
   else .fail
  |_=>.fail
 |_=>.fail
def binI(op:BinOp)(k:IntKind)(a b:Int)(f:SV->RT):RT :=
 match op with
 |.add=>f (.fv (.int k (k.wrap (a+b))))
 |.sub=>f (.fv (.int k (k.wrap (a-b))))
 |.mul=>f (.fv (.int k (k.wrap (a*b))))
 |.quo=>.cnd (decide (b=0)) .fail (f (.fv (.int k (k.wrap (a.tdiv b)))))
 |.rem=>.cnd (decide (b=0)) .fail (f (.fv (.int k (a.tmod b))))
 |.and | .or | .xor | .andNot=>f (.fv (.int k (bitI op k a b)))
 |.eql=>f (.fv (.bool (a==b)))
 |.neq=>f (.fv (.bool (a !=b)))
 |.lss=>f (.fv (.bool (decide (a<b))))
 |.leq=>f (.fv (.bool (decide (a<=b))))
 |.gtr=>f (.fv (.bool (decide (a>b))))
 |.geq=>f (.fv (.bool (decide (a≥b))))
 |_=>.fail
def binS(op:BinOp)(a b:ByteArray)(f:SV->RT):RT :=
 match op with
 |.add=>.cnd (decide (((a.size+b.size:Nat):Int)>IntKind.i64.max)) .fail (f (.fv (.str (a++b))))
 |.eql=>f (.fv (.bool (a.toList==b.toList)))
 |.neq=>f (.fv (.bool (!(a.toList==b.toList))))
 |.lss=>f (.fv (.bool (Op.bytesLess a.toList b.toList)))
 |.leq=>f (.fv (.bool (Op.bytesLess a.toList b.toList||a.toList==b.toList)))
 |.gtr=>f (.fv (.bool (!(Op.bytesLess a.toList b.toList||a.toList==b.toList))))
 |.geq=>f (.fv (.bool (!(Op.bytesLess a.toList b.toList))))
 |_=>.fail
def kindEq:IntKind->IntKind->Bool
 |.i8,.i8 | .i16,.i16 | .i32,.i32 | .i64,.i64 | .u8,.u8 | .u16,.u16 | .u32,.u32 | .u64,.u64=>true
 |_,_=>false
def eqOp(neg:Bool)(i:TyI)(x y:SV)(f:SV->RT):RT :=
 match i.agg,i.ck,x,y with
 |false,[.bool],.fv (.bool a),.fv (.bool b)=>f (.fv (.bool (cond neg (!(a==b)) (a==b))))
 |false,[.raw (.pointer none)],.ptr id off,.fv (.raw (.pointer none))=>live (.ptr id off) (f (.fv (.bool neg)))
 |false,[.raw (.pointer none)],.fv (.raw (.pointer none)),.fv (.raw (.pointer none))=>f (.fv (.bool (!neg)))
 |_,_,_,_=>.fail
def binOp(op:BinOp)(i:Option TyI)(x y:SV)(f:SV->RT):RT :=
 match x,y with
 |.fv (.int k a),.fv (.int k' b)=>match op with
  |.shl=>.cnd (decide (b<0)) .fail (f (.fv (.int k (shI true k a b))))
  |.shr=>.cnd (decide (b<0)) .fail (f (.fv (.int k (shI false k a b))))
  |op=>bif kindEq k k' then binI op k a b f else .fail
 |.fv (.str a),.fv (.str b)=>binS op a b f
 |x,y=>match op,i with
  |.eql,some i=>eqOp false i x y f
  |.neq,some i=>eqOp true i x y f
  |_,_=>.fail
def unOp(op:UnOp)(x:SV)(f:SV->RT):RT :=
 match op,x with
 |.neg,.fv (.int k n)=>f (.fv (.int k (k.wrap (0-n))))
 |.not,.fv (.bool b)=>f (.fv (.bool (!b)))
 |.xor,.fv (.int k n)=>f (.fv (.int k (bitI .xor k (if k.signed then -1 else k.max) n)))
 |_,_=>.fail
def rawOk:Value->Value->Bool
 |.pointer none,.pointer none | .map none,.map none | .nilFunc,.nilFunc | .nilIface,.nilIface=>true
 |.func (.func g) ⟨[]⟩ ⟨[]⟩,.func (.func g') ⟨[]⟩ ⟨[]⟩=>Nat.beq g g'
 |_,_=>false
def ckEq:CK->CK->Bool
 |.int k,.int k'=>kindEq k k'
 |.bool,.bool | .str,.str=>true
 |.lst s,.lst s'=>Nat.beq s s'
 |.raw v,.raw v'=>rawOk v v'
 |_,_=>false
def cksEq:List CK->List CK->Bool
 |[],[]=>true
 |c::cs,c'::cs'=>ckEq c c'&&cksEq cs cs'
 |_,_=>false
def zEq1:FV->FV->Bool
 |.int k a,.int k' b=>kindEq k k'&&(match a,b with | .ofNat 0,.ofNat 0=>true | _,_=>false)
 |.bool false,.bool false=>true
 |.str ⟨⟨[]⟩⟩,.str ⟨⟨[]⟩⟩=>true
 |.list s [],.list s' []=>Nat.beq s s'
 |.raw v,.raw v'=>rawOk v v'
 |_,_=>false
def zEqs:List FV->List FV->Bool
 |[],[]=>true
 |a::as,b::bs=>zEq1 a b&&zEqs as bs
 |_,_=>false
def zEq:FV->FV->Bool
 |.agg as,.agg bs=>zEqs as bs
 |.agg _,_=>false
 |_,.agg _=>false
 |a,b=>zEq1 a b
def bEq:Bool->Bool->Bool
 |true,true | false,false=>true
 |_,_=>false
def mkEq(kag:Bool)(ks:List CK)(z:FV)(kag':Bool)(ks':List CK)(z':FV):Bool:=bEq kag kag'&&cksEq ks ks'&&zEq z z'
def notIn(id:Nat):List (Option Nat)->Bool
 |[]=>true
 |some j::r=>!(Nat.beq j id)&&notIn id r
 |none::r=>notIn id r
def q4g(acc:List (Option Nat)):List (Key×Ent)->Bool
 |[]=>true
 |(.head id,_)::r=>notIn id acc&&q4g acc r
 |_::_=>false
def isFn:Value->Bool
 |.func (.func _) ⟨[]⟩ ⟨[]⟩=>true
 |_=>false
def ext:List Tok->List SV->List (Option Nat)->List (Key×Ent)->(List FV->List (Option Nat)->List (Key×Ent)->RT)->RT
 |[],[],acc,fz,f=>bif q4g acc fz then f [] acc fz else .fail
 |t::T,v::V,acc,fz,f=>match t with
  |.int k=>match v with
   |.fv (.int k' n)=>bif kindEq k k' then ext T V acc fz λL ids us=>f (.int k n::L) ids us else .fail
   |_=>.fail
  |.bool=>match v with
   |.fv (.bool b)=>ext T V acc fz λL ids us=>f (.bool b::L) ids us
   |_=>.fail
  |.str=>match v with
   |.fv (.str b)=>ext T V acc fz λL ids us=>f (.str b::L) ids us
   |_=>.fail
  |.lst sz=>match v with
   |.nilS=>ext T V acc fz λL ids us=>f (.list sz []::L) ids us
   |.fv x=>match lstOf sz x with
    |some xs=>ext T V acc fz λL ids us=>f (.list sz xs::L) ids us
    |none=>.fail
   |.sl id view=>q2y id λe=>match e with
    |.vec s xs | .frz s xs=>bif Nat.beq s sz then(match view with
      |none=>ext T V acc ((.head id,.frz s xs)::fz) λL ids us=>f (.list sz xs::L) ids us
      |some (o,n)=>ext T V acc ((.head id,.frz s xs)::fz) λL ids us=>f (.list sz ((xs.drop o).take n)::L) ids us)else .fail
    |_=>.fail
   |_=>.fail
  |.raw u=>match v with
   |.fv (.raw w)=>bif rawOk u w then ext T V acc fz λL ids us=>f (.raw u::L) ids us else .fail
   |_=>.fail
  |.fn=>match v with
   |.fv (.raw w)=>bif isFn w then ext T V acc fz λL ids us=>f (.raw w::L) ids us else .fail
   |_=>.fail
  |.fpt sz=>match v with
   |.fp s [x] 0 0=>bif Nat.beq s sz then ext T V acc fz λL ids us=>f (.ref s x::L) ids us else .fail
   |_=>.fail
  |.skip=>ext T V acc fz f
  |.own sz=>match v with
   |.nilS=>ext T V (acc++[none]) fz λL ids us=>f (.list sz []::L) ids us
   |.sl id none=>q2y id λe=>match e with
    |.vec s xs=>bif Nat.beq s sz&&notIn id acc then ext T V (acc++[some id]) fz λL ids us=>f (.list sz xs::L) ids us else .fail
    |_=>.fail
   |_=>.fail
  |.obj k=>match v with
   |.ptr id 0=>q2y id λe=>match e with
    |.obj n=>bif Nat.beq n k&&notIn id acc then rdCells id 0 k λvs=>ext T (vs++V) (acc++[some id]) fz f else .fail
    |_=>.fail
   |_=>.fail
  |.ref j=>match v,acc[j]? with
   |.ptr id 0,some (some id')=>bif Nat.beq id id' then ext T V acc fz f else .fail
   |_,_=>.fail
  |.agg k=>match v with
   |.agg cs=>bif Nat.beq cs.length k then ext T (cs++V) acc fz f else .fail
   |_=>.fail
  |.clo fn k=>match fn,v with
   |.func g,.clo (.func g') [] cs=>bif Nat.beq g g'&&Nat.beq cs.length k then ext T (cs++V) acc fz f else .fail
   |_,_=>.fail
  |.mapt kag ks z=>match v with
   |.mp id=>q2y id λe=>match e with
    |.mapH kag' ks' z'=>bif mkEq kag ks z kag' ks' z'&&notIn id acc then .rd (.cell id 0) λe=>match e with
     |.map es clk=>ext T V (acc++[some id]) fz λL ids us=>f (.list 3 es::.int .i64 clk::L) ids us
     |_=>.fail
     else .fail
    |_=>.fail
   |_=>.fail
 |_,_,_,_,_=>.fail
def dec(L:List FV):Nat->List Tok->(List FV->RT)->RT
 |_,[],f=>f []
 |j,t::T,f=>match t with
  |.int k=>.int (asInt k L[j]?) λn=>dec L (j+1) T λr=>f (.int k n::r)
  |.bool=>.boo (asBool L[j]?) λn=>dec L (j+1) T λr=>f (.bool n::r)
  |.str=>.str (asStr L[j]?) λn=>dec L (j+1) T λr=>f (.str n::r)
  |.lst sz | .own sz=>.lst (asLst sz L[j]?) λn=>dec L (j+1) T λr=>f (.list sz n::r)
  |.raw u=>dec L (j+1) T λr=>f (.raw u::r)
  |.fn=>.fail
  |.fpt sz=>.lst (asRef sz L[j]?) λn=>dec L (j+1) T λr=>f (.ref sz (hd1 n)::r)
  |.skip | .obj _ | .ref _ | .agg _ | .clo _ _=>dec L j T f
  |.mapt _ _ _=>.lst (asLst 3 L[j]?) λes=>.int (asInt .i64 L[j+1]?) λclk=>dec L (j+2) T λr=>f (.list 3 es::.int .i64 clk::r)
def bld(nm:List Nat):Nat->List Tok->List FV->Option (List (Key×Ent)×List SV×List FV)
 |_,[],L=>some ([],[],L)
 |j,t::T,L=>match t with
  |.int _ | .bool | .str | .lst _ | .raw _ | .fn=>match L with
   |x::L=>match bld nm j T L with
    |some (us,vs,r)=>some (us,.fv x::vs,r)
    |none=>none
   |[]=>none
  |.fpt _=>match L with
   |.ref sz x::L=>match bld nm j T L with
    |some (us,vs,r)=>some (us,.fp sz [x] 0 0::vs,r)
    |none=>none
   |_=>none
  |.skip=>match bld nm j T L with
   |some (us,vs,r)=>some (us,.dead::vs,r)
   |none=>none
  |.own _=>match L,nm[j]? with
   |.list sz xs::L,some id=>match bld nm (j+1) T L with
    |some (us,vs,r)=>some ((.head id,.vec sz xs)::us,.sl id none::vs,r)
    |none=>none
   |_,_=>none
  |.obj k=>match nm[j]? with
   |some id=>match bld nm (j+1) T L with
    |some (us,vs,r)=>some ((.head id,.obj k)::(wrCells id 0 (vs.take k)++us),.ptr id 0::vs.drop k,r)
    |none=>none
   |none=>none
  |.ref i=>match nm[i]? with
   |some id=>match bld nm j T L with
    |some (us,vs,r)=>some (us,.ptr id 0::vs,r)
    |none=>none
   |none=>none
  |.agg k=>match bld nm j T L with
   |some (us,vs,r)=>some (us,.agg (vs.take k)::vs.drop k,r)
   |none=>none
  |.clo fn k=>match bld nm j T L with
   |some (us,vs,r)=>some (us,.clo fn [] (vs.take k)::vs.drop k,r)
   |none=>none
  |.mapt kag ks z=>match L,nm[j]? with
   |.list _ es::.int _ clk::L,some id=>match bld nm (j+1) T L with
    |some (us,vs,r)=>some ((.head id,.mapH kag ks z)::(.cell id 0,.map es clk)::(.cell id 1,.map es clk)::us,.mp id::vs,r)
    |none=>none
   |_,_=>none
def owns:List Tok->Nat
 |[]=>0
 |.own _::T | .obj _::T | .mapt _ _ _::T=>owns T+1
 |_::T=>owns T
def namesFrom(base:Nat):Nat->List Nat
 |0=>[]
 |n+1=>base::namesFrom (base+1) n
def tops:Nat->List Tok->List Bool
 |_,[]=>[]
 |n,t::T=>match t with
  |.own _ | .mapt _ _ _=>Nat.beq n 0::tops (n-1) T
  |.obj k=>Nat.beq n 0::tops (n-1+k) T
  |.agg k | .clo _ k=>tops (bif Nat.beq n 0 then 0 else n-1+k) T
  |_=>tops (n-1) T
def nameAll(base:Nat):List Bool->List (Option Nat)->Nat->List Nat
 |b::bs,o::r,n=>(match b,o with | true,some id=>id | _,_=>base)::nameAll (base+1) bs r (n-1)
 |_,_,n=>namesFrom base n
def newOf:List Bool->List (Option Nat)->List Nat->List Nat
 |b::bs,o::r,id::nm=>(match b,o with | true,some _=>newOf bs r nm | _,_=>id::newOf bs r nm)
 |_,_,nm=>nm
def tombsOf:List Bool->List (Option Nat)->List (Key×Ent)
 |b::bs,o::r=>(match b,o with | false,some id=>(.head id,.tomb)::tombsOf bs r | _,_=>tombsOf bs r)
 |_,_=>[]
def tokEq:Tok->Tok->Bool
 |.int k,.int k'=>kindEq k k'
 |.bool,.bool | .str,.str | .skip,.skip | .fn,.fn=>true
 |.mapt kag ks z,.mapt kag' ks' z'=>mkEq kag ks z kag' ks' z'
 |.fpt s,.fpt s' | .lst s,.lst s' | .own s,.own s' | .obj s,.obj s' | .ref s,.ref s' | .agg s,.agg s'=>Nat.beq s s'
 |.raw v,.raw v'=>rawOk v v'
 |.clo (.func g) k,.clo (.func g') k'=>Nat.beq g g'&&Nat.beq k k'
 |_,_=>false
def arity:Tok->Nat
 |.obj k | .agg k | .clo _ k=>k
 |_=>0
def pastTok:List Tok->Nat->Option (List Tok)
 |T,0=>some T
 |t::T,n+1=>match t with
  |.own _ | .obj _ | .mapt _ _ _ | .ref _=>none
  |t=>pastTok T (n+arity t)
 |[],_+1=>none
def ioOk:Nat->List Tok->List Tok->Bool
 |0,[],_=>true
 |0,.obj k::T,.obj k'::U=>Nat.beq k k'&&ioOk k T U
 |0,.own s::T,.own s'::U=>Nat.beq s s'&&ioOk 0 T U
 |0,.mapt kag ks z::T,.mapt kag' ks' z'::U=>mkEq kag ks z kag' ks' z'&&ioOk 0 T U
 |0,.clo _ k::T,.clo _ k'::U=>Nat.beq k k'&&ioOk 0 T U
 |0,.ref _::T,.ref _::U=>ioOk 0 T U
 |0,.agg k::T,.skip::U=>match pastTok T k with
  |some T'=>ioOk 0 T' U
  |none=>false
 |0,t::T,.skip::U=>match t with
  |.int _ | .bool | .str | .lst _ | .raw _ | .fn | .fpt _ | .skip=>ioOk 0 T U
  |_=>false
 |n+1,t::T,u::U=>tokEq t u&&ioOk (n+arity t) T U
 |_,_,_=>false
def giveOk:List Tok->List Tok->Bool
 |[.own _],.skip::_=>true
 |_,_=>false
def okIO(T U:List Tok):Bool:=giveOk T U||ioOk 0 T U
def q5n(T U:List Tok):List Bool:=bif giveOk T U then [false]else tops 0 T
def flatOk:Nat->List Tok->Bool
 |_,[]=>true
 |0,t::T=>match t with
  |.obj k=>flatOk k T
  |_=>flatOk 0 T
 |n+1,t::T=>match t with
  |.agg _ | .skip=>false
  |t=>flatOk (n+arity t) T
def putSlots:List Nat->List SV->List (Key×Ent)
 |t::ts,v::vs=>(.slot t,.sv v)::putSlots ts vs
 |_,_=>[]
def ixView(n:Int)(len:Nat)(view:Option (Nat×Nat))(f:Nat->RT):RT :=
 match view with
 |none=>.nat (ix n len) f
 |some (o,m)=>.nat (ix n m) λj=>f (o+j)
section
variable (E:Env) (call:FuncId->List FV->Res)
def out(dst:Option Tmp)(v:SV)(us:List (Key×Ent)):RT :=
 match dst with
 |some d=>.ret ((.slot d,.sv v)::us)
 |none=>.ret us
def ty(t:TypeId)(f:TyI->RT):RT:=match E.ty t with | some i=>f i | none=>.fail
def sliceTy(t:TypeId)(f:TyI->RT):RT:=ty E t λti=>match ti.agg,ti.ck with | false,[.lst _]=>ty E ti.elem f | _,_=>.fail
def isStr(t:TypeId)(f:RT):RT:=ty E t λti=>match ti.agg,ti.ck with | false,[.str]=>f | _,_=>.fail
def scalarOut:List Tok->Bool
 |[]=>true
 |t::T=>match t with
  |.lst _ | .own _ | .mapt _ _ _ | .fpt _=>false
  |_=>scalarOut T
def freshAll:List Nat->RT->RT
 |[],t=>t
 |id::r,t=>.fresh id (freshAll r t)
def vb(f:Nat):Nat:=Nat.mod f 100000
def fnNo:List SV->Option Nat
 |[]=>none
 |v::r=>match v with
  |.clo (.func g) _ _=>some g
  |.fv (.raw (.func (.func g) _ _))=>some g
  |_=>fnNo r
def vary(E:Env)(f:FuncId)(vs:List SV):FuncId :=
 match E.fn f with
 |some i=>match fnNo vs with
  |some g=>match annAt' i.ann (Nat.add 1000000 g)with
   |some [v]=>v
   |_=>f
  |none=>f
 |none=>f
where
 annAt' (an:List (Nat×List Nat×List Tok)) (id:Nat):Option (List Nat):=match an with
  |[]=>none
  |a::r=>bif Nat.beq a.1 id then some a.2.1 else annAt' r id
def callOp0(dst:Option Tmp)(f:FuncId)(vs:List SV):RT :=
 match E.fn f,dst with
 |some i,some d=>bif okIO i.tin i.tout&&(flatOk 0 i.tin&&flatOk 0 i.tout)then ext i.tin vs [] [] λL ids us =>
  .lst (call f L) λL'=>dec L' 0 i.tout λL'' =>
   match bld (nameAll (1000*(d+2)) (q5n i.tin i.tout) ids (owns i.tout)) 0 i.tout L'' with
   |some (ws,rs,[])=>freshAll (newOf (q5n i.tin i.tout) ids (nameAll (1000*(d+2)) (q5n i.tin i.tout) ids (owns i.tout)))
     (.ret ((.slot d,.sv (match rs.drop vs.length with | [r]=>r | rs=>.tup rs))::(ws++(tombsOf (q5n i.tin i.tout) ids++(bif scalarOut i.tout then []else us)))))
   |_=>.fail
  else .fail
 |_,_=>.fail
def qbu(dst:Option Tmp)(f:FuncId)(vs:List SV):RT:=bif Nat.beq (vb (vary E f vs)) f then callOp0 E call dst (vary E f vs) vs else .fail
def callee(v:SV)(f:FuncId->List SV->RT):RT :=
 match v with
 |.fv (.raw (.func (.func g) ⟨[]⟩ ⟨[]⟩))=>f g []
 |.clo (.func g) [] cs=>f g cs
 |_=>.fail
def qb(n:Nat)(z:FV)(parts:List (Nat×FV)):List FV:=parts.foldl (λl p=>l.set p.1 p.2) (List.replicate n z)
def frzParts(n sz:Nat):List (Nat×SV)->(List (Nat×FV)->List (Key×Ent)->RT)->RT
 |[],f=>f [] []
 |(i,v)::r,f=>frz v λx us=>bif Nat.beq v.cells.length sz&&Nat.ble (i+1) n then frzParts n sz r λps us'=>f ((i,x)::ps) (us++us')else .fail
def fillR(flds:List (Nat×Nat)):List SV->List (Nat×SV)->(List SV->RT)->RT
 |cs,[],f=>f cs
 |cs,(i,v)::r,f=>match flds[i]? with
  |some (off,ft)=>ty E ft λfi=>bif Nat.beq v.cells.length fi.size&&Nat.ble (off+fi.size) cs.length&&v.cells.all SV.flat then
    lives v.cells (fillR flds (cs.take off++(v.cells++cs.drop (off+v.cells.length))) r f)else .fail
  |none=>.fail
def opdP:List (Nat×Operand)->(List (Nat×SV)->RT)->RT
 |[],f=>f []
 |(i,x)::r,f=>opd x λv=>opdP r λvs=>f ((i,v)::vs)
def slLo(h:Nat)(lo:Option Int)(g:Nat->Nat->RT):RT :=
 match lo with
 |none=>g 0 h
 |some l=>.nat (bd l h) λl=>g l h
def slB(len:Nat)(lo hi:Option Int)(g:Nat->Nat->RT):RT :=
 match hi with
 |none=>slLo len lo g
 |some h=>.nat (bd h len) λh=>slLo h lo g
def viewOf(view:Option (Nat×Nat))(len:Nat):Nat×Nat:=match view with | none=>(0,len) | some p=>p
def sliceOp(t:TypeId)(x:SV)(lo hi:Option Int)(f:SV->RT):RT :=
 match x with
 |.fv (.str s)=>isStr E t (slB s.size lo hi λl h=>f (.fv (.str (s.extract l h))))
 |.fv (.list sz xs)=>sliceTy E t λte=>bif Nat.beq te.size sz then slB xs.length lo hi λl h=>f (.fv (.list sz ((xs.take h).drop l)))else .fail
 |.nilS=>sliceTy E t λ_=>slB 0 lo hi λ_ _=>f .nilS
 |.sl id view=>sliceTy E t λte=>q2y id λe=>match e.row with
  |some (sz,len)=>bif Nat.beq te.size sz then slB (viewOf view len).2 lo hi λl h=>f (.sl id (some ((viewOf view len).1+l,h-l)))else .fail
  |none=>.fail
 |_=>.fail
def qcv(v:Option SV)(f:Option Int->RT):RT :=
 match v with
 |none=>f none
 |some (.fv (.int _ n))=>f (some n)
 |_=>.fail
def opdO(x:Option Operand)(f:Option SV->RT):RT:=match x with | none=>f none | some x=>opd x λv=>f (some v)
def mapTy(t:TypeId)(f:TyI->TyI->RT):RT:=ty E t λti=>match ti.agg,ti.ck with
 |false,[.raw (.map none)]=>ty E ti.key λki=>ty E ti.elem λei=>f ki ei
 |_,_=>.fail
def q6p(t:TypeId)(m:SV)(f:Nat->TyI->Bool->List CK->FV->RT):RT:=mapTy E t λki ei=>match m with
 |.mp id=>q2y id λe=>match e with
  |.mapH kag ks z=>bif mkEq kag ks z ki.agg ki.ck ei.q1e then f id ei kag ks z else .fail
  |_=>.fail
 |_=>.fail
def keyOf'(kag:Bool)(ks:List CK)(k:SV)(f:FV->RT):RT:=frz k λx us=>match us with
 |[]=>bif q2k kag ks x then f x else .fail
 |_=>.fail
def q5h(id c:Nat)(f:List FV->Int->RT):RT:=.rd (.cell id c) λe=>match e with | .map es clk=>f es clk | _=>.fail
def q3r(id:Nat)(es:List FV)(clk:Int)(us:List (Key×Ent)):List (Key×Ent):=(.cell id 0,.map es clk)::(.cell id 1,.map es clk)::us
def builtinOp(d:Option Tmp)(b:Builtin)(argTypes:List TypeId)(vs:List SV):RT :=
 match b,vs with
 |.len,[v]=>match argTypes with
  |[t]=>match v with
   |.fv (.str s)=>isStr E t (out d (.fv (.int .i64 s.size)) [])
   |.fv (.list _ xs)=>sliceTy E t λ_=>out d (.fv (.int .i64 xs.length)) []
   |.nilS=>sliceTy E t λ_=>out d (.fv (.int .i64 0)) []
   |.sl id view=>sliceTy E t λ_=>q2y id λe=>match e with
    |.vec _ xs | .frz _ xs=>match view with | none=>out d (.fv (.int .i64 xs.length)) [] | some (_,n)=>out d (.fv (.int .i64 n)) []
    |_=>.fail
   |.mp id=>q6p E t (.mp id) λid _ _ _ _=>q5h id 0 λes _=>out d (.fv (.int .i64 es.length)) []
   |_=>.fail
  |_=>.fail
 |.delete,[m,k]=>match argTypes with
  |t::_=>q6p E t m λid _ kag ks _=>keyOf' kag ks k λk=>q5h id 0 λes clk=>out d .dead (q3r id (mdel es k) clk [])
  |_=>.fail
 |.append,[s,x]=>match argTypes,d with
  |[t,u],some d=>bif Nat.beq t u then sliceTy E t λte=>bif Nat.ble te.bytes 1048576&&Nat.ble 1 te.bytes&&Nat.ble 1 te.size then(seq te.size x λys=>match s with
   |.nilS=>.cnd (Nat.ble ys.length (140737488355328 / te.bytes)) (.fresh d (.ret [(.slot d,.sv (.sl d none)),(.head d,.vec te.size ys)])) .fail
   |.sl id view=>q2y id λe=>match e with
    |.vec sz xs=>bif Nat.beq sz te.size then(match view with
     |none=>.cnd (Nat.ble (xs.length+ys.length) (140737488355328 / te.bytes)) (.fresh d (.ret [(.slot d,.sv (.sl d none)),(.head d,.vec sz (xs++ys)),(.head id,.tomb)])) .fail
     |some (0,n)=>.cnd (Nat.ble (n+ys.length) (140737488355328 / te.bytes)) (.fresh d (.ret [(.slot d,.sv (.sl d none)),(.head d,.vec sz (xs.take n++ys)),(.head id,.tomb)])) .fail
     |_=>.fail)else .fail
    |_=>.fail
   |_=>.fail)else .fail else .fail
  |_,_=>.fail
 |.min,[.fv (.int k a),.fv (.int _ b)]=>out d (.fv (.int k (if b<a then b else a))) []
 |.max,[.fv (.int k a),.fv (.int _ b)]=>out d (.fv (.int k (if a<b then b else a))) []
 |_,_=>.fail
def rtOp(o:Oper):RT :=
 let d:=o.dst
 match o.op with
 |.move x | .assign x=>opd x λv=>out d v []
 |.pick c a b=>opd c λc=>opd a λa=>opd b λb=>match c with
  |.fv (.bool c)=>match a,b with
   |.fv (.bool a),.fv (.bool b)=>out d (.fv (.bool (cond c a b))) []
   |a,b=>.cnd c (out d a []) (out d b [])
  |_=>.fail
 |.alloc t=>ty E t λi=>match d with
  |some d=>.fresh d (.ret ((.slot d,.sv (.ptr d 0))::(.head d,.obj i.size)::wrCells d 0 i.q7g))
  |none=>.fail
 |.box t x=>ty E t λi=>opd x λv=>match d with
  |some d=>bif Nat.beq v.cells.length i.size&&v.cells.all SV.flat then lives v.cells <| .fresh d (.ret ((.slot d,.sv (.ptr d 0))::(.head d,.obj i.size)::wrCells d 0 v.cells))else .fail
  |none=>.fail
 |.build t parts=>ty E t λi=>opdP parts.toList λps=>bif i.flds.all (λp=>(E.ty p.2).isSome)&&!i.flds.isEmpty then fillR E i.flds i.q7g ps λcs=>out d (.agg cs) []else .fail
 |.buildSlice t n parts=>sliceTy E t λte=>opdP parts.toList λps=>frzParts n te.size ps λxs us=>match d with
  |some d=>bif Nat.ble (n*te.size) 16777216&&Nat.ble 1 te.size then .fresh d (.ret ((.slot d,.sv (.sl d none))::(.head d,.vec te.size (qb n te.q1e xs))::us))else .fail
  |none=>.fail
 |.load t a=>ty E t λi=>opd a λa=>load i a λv=>out d v []
 |.store t a x=>ty E t λi=>opd a λa=>opd x λx=>store i a x
 |.nilCheck x=>opd x λv=>live v (out d v [])
 |.binOp op t x y _=>opd x λx=>opd y λy=>binOp op (E.ty t) x y λv=>out d v []
 |.unOp op _ x=>opd x λx=>unOp op x λv=>out d v []
 |.convert src dst x=>opd x λx=>ty E src λ_=>ty E dst λi=>match i.agg,x,i.ck with
  |false,.fv (.int _ n),[.int k]=>out d (.fv (.int k (k.wrap n))) []
  |false,.fv (.str s),[.str]=>out d (.fv (.str s)) []
  |false,x,[.str]=>sliceTy E src λte=>match te.agg,te.ck with
   |false,[.int .u8]=>seq 1 x λxs=>.str (bytesO xs) λs=>out d (.fv (.str s)) []
   |_,_=>.fail
  |_,_,_=>.fail
 |.makeFunc fn first caps=>opds first.toList λfs=>opds caps.toList λcs=>out d (.clo fn fs cs) []
 |.makeMap t none=>mapTy E t λki ei=>match d with
  |some d=>.fresh d (.ret ((.slot d,.sv (.mp d))::(.head d,.mapH ki.agg ki.ck ei.q1e)::q3r d [] 0 []))
  |none=>.fail
 |.lookup t m k ok=>opd m λm=>opd k λk=>q6p E t m λid ei kag ks z=>keyOf' kag ks k λk=>match ok with
  |false=>q5h id 1 λes _=>q7r ei [mgetD es k z] 0 0 λv=>out d v []
  |true=>q5h id 0 λes _=>q7r ei [mgetD es k z] 0 0 λv=>out d (.tup [v,.fv (.bool (mhas es k))]) []
 |.mapUpdate t m k x | .insert t m k x=>opd m λm=>opd k λk=>opd x λx=>q6p E t m λid _ kag ks z=>keyOf' kag ks k λk=>frz x λy us =>
  bif q32 z y&&d.isNone then q5h id 0 λes clk=>.ret (q3r id (mput es k y clk) (mclk es k clk) us)else .fail
 |.mapEntry t m k=>opd m λm=>opd k λk=>q6p E t m λid _ kag ks z=>keyOf' kag ks k λk=>q5h id 0 λes clk=>match d with
  |some d=>.ret [(.slot d,.sv (.tup [.dead,.fv (.int .i64 (mborn es k clk))])),(.cell id 0,.map (ment es k z clk) (mclk es k clk))]
  |none=>.fail
 |.entryStore t m s x=>opd m λm=>opd s λs=>opd x λx=>q6p E t m λid _ _ _ z=>match s with
  |.fv (.int _ b)=>frz x λy us=>bif q32 z y&&d.isNone then q5h id 0 λes clk=>.cnd (q5g es b) (.ret (q3r id (msetB es b y) clk us)) .fail else .fail
  |_=>.fail
 |.makeSlice t n c=>sliceTy E t λte=>opd n λn=>opd c λc=>match n,c,d with
  |.fv (.int _ n),.fv (.int _ c),some d=>bif Nat.ble 1 te.size then .nat (q1p te.bytes c) λc=>.nat (bd n c) λn =>
   .fresh d (.ret [(.slot d,.sv (.sl d none)),(.head d,.vec te.size (List.replicate n te.q1e))])else .fail
  |_,_,_=>.fail
 |.slice t x lo hi mx=>opd x λx=>opdO lo λlo=>opdO hi λhi=>opdO mx λmx =>
  match mx with
  |none=>qcv lo λlo=>qcv hi λhi=>sliceOp E t x lo hi λv=>out d v []
  |some _=>.fail
 |.fieldAddr s x f=>ty E s λi=>opd x λx=>match i.flds[f]? with
  |some (off,ft)=>ty E ft λfi=>bif Nat.ble 1 fi.size then live x (match x with
   |.ptr id o=>out d (.ptr id (o+off)) []
   |.ept id sz j c=>out d (.ept id sz j (c+off)) []
   |.fp sz xs j c=>out d (.fp sz xs j (c+off)) []
   |_=>.fail)else .fail
  |none=>.fail
 |.field s x f=>ty E s λi=>opd x λx=>match i.flds[f]?,x with
  |some (off,ft),.agg cs=>ty E ft λfi=>bif Nat.ble (off+fi.size) cs.length then
    (bif fi.agg then out d (.agg ((cs.drop off).take fi.size)) []else match cs[off]? with | some v=>out d v [] | none=>.fail)else .fail
  |_,_=>.fail
 |.indexAddr t x i=>sliceTy E t λte=>opd x λx=>opd i λi=>match i with
  |.fv (.int _ n)=>match x with
   |.fv (.list sz xs)=>bif Nat.beq sz te.size then .nat (ix n xs.length) λj=>out d (.fp sz xs j 0) []else .fail
   |.sl id view=>q2y id λe=>match e with
    |.vec sz xs | .frz sz xs=>bif Nat.beq sz te.size then ixView n xs.length view λj=>out d (.ept id sz j 0) []else .fail
    |_=>.fail
   |_=>.fail
  |_=>.fail
 |.index t x i=>opd x λx=>opd i λi=>match x,i with
  |.fv (.str s),.fv (.int _ n)=>isStr E t <| .int (q2p s n) λb=>out d (.fv (.int .u8 b)) []
  |_,_=>.fail
 |.extract x j=>opd x λx=>match x with
  |.tup vs=>match vs[j]? with | some v=>out d v [] | none=>.fail
  |_=>.fail
 |.call c=>match c.callee with
  |.value fx=>opd fx λfv=>opds c.args.toList λvs=>callee fv λg cs=>qbu E call d g (vs++cs)
  |.builtin b=>opds c.args.toList λvs=>builtinOp E d b c.argTypes.toList vs
  |.invoke _ _=>.fail
 |_=>.fail
abbrev Fp:=List Key×List Key
def q2a(us:List (Key×Ent)):List Key:=us.map (·.1)
def evOps(ops:Array Oper):List Oper->Mem->List Fp->(Mem->List Fp->Res)->Res
 |[],M,fs,K=>K M fs
 |o::r,M,fs,K =>
  let exec (M:Mem) (pre:List Key) (wr:List (Key×Ent)):Res :=
   (rtOp E call o).run M pre λus lg=>evOps ops r (us++M) ((lg,q2a us++q2a wr)::fs) K
  let skip (M:Mem) (pre:List Key):Res:=match o.dst with
   |some d=>evOps ops r ((.slot d,.sv .gone)::M) ((pre,[.slot d])::fs) K
   |none=>evOps ops r M ((pre,[])::fs) K
  match o.guard with
  |none=>exec M [] []
  |some (j,want)=>match(ops[j]?).bind (·.dst)with
   |some g=>match M.get (.slot g)with
    |some (.sv (.fv (.bool b))) =>
     cond b (cond want (exec ((.slot g,.sv (.fv (.bool true)))::M) [.slot g] []) (skip ((.slot g,.sv (.fv (.bool true)))::M) [.slot g]))
      (cond want (skip ((.slot g,.sv (.fv (.bool false)))::M) [.slot g]) (exec ((.slot g,.sv (.fv (.bool false)))::M) [.slot g] []))
    |some (.sv .gone)=>skip M [.slot g]
    |_=>none
   |none=>none
def qat(a b:List Key):Bool:=a.all λk=>!(b.any λk'=>k.beq k')
def fpOk(before:Array Nat):Nat->List Fp->Bool
 |_,[]=>true
 |j,f::fs=>inner (before.getD j 0) f (j-1) fs&&fpOk before (j-1) fs
where
 inner (bj:Nat) (f:Fp):Nat->List Fp->Bool
  |_,[]=>true
  |i,g::gs=>(bj.testBit i||(qat f.2 g.1&&qat g.2 f.1&&qat f.2 g.2))&&inner bj f (i-1) gs
inductive X where
 |normal
 |exit (id:Nat)
 |ret
abbrev Kont:=X->Mem->Res
def slotsOf:List Nat->(List SV->RT)->RT
 |[],f=>f []
 |t::r,f=>.rd (.slot t) λe=>match e with | .sv v=>slotsOf r λvs=>f (v::vs) | _=>.fail
def RT.told(t:RT)(M:Mem)(K:List FV->Res):Res :=
 t.run M [] λus _=>match us with
  |[(_,.sv (.fv (.agg L)))]=>K L
  |_=>none
def tell(L:List FV):RT:=.ret [(.slot 0,.sv (.fv (.agg L)))]
def memOf(ts:List Nat)(T:List Tok)(L:List FV):Mem :=
 match bld (namesFrom 1000 (owns T)) 0 T L with
 |some (us,vs,_)=>putSlots ts vs++us
 |none=>[]
abbrev Ann:=List (Nat×List Nat×List Tok)
def annAt(an:Ann)(id:Nat):Option (List Nat×List Tok):=(an.find? (λa=>Nat.beq a.1 id)).map (·.2)
def prune(an:Ann)(id:Nat)(M:Mem)(K:Mem->Res):Res :=
 match annAt an id with
 |none=>K M
 |some (ts,T)=>bif flatOk 0 T then(slotsOf ts λvs=>ext T vs [] [] λL _ _=>tell L).told M λL=>K (memOf ts T L)else none
def kSeq(g:Mem->Res)(K:Kont):Kont
 |.normal,M=>g M
 |e,M=>K e M
def kBlock(id:Nat)(K:Kont):Kont
 |.exit j,M=>bif Nat.beq j id then K .normal M else K (.exit j) M
 |e,M=>K e M
def q4a:Code->Nat
 |.region id _ _=>id
 |.seq a _=>q4a a
 |.block _ c=>q4a c
 |.scope c=>q4a c
 |_=>0
def evLoop(id:Nat)(B:Kont->Mem->Res)(K:Kont)(pr:Mem->(Mem->Res)->Res):Nat->Mem->Res
 |0,_=>none
 |m+1,M=>B (kSeq (λM'=>pr M' (evLoop id B K pr m)) K) M
def evR(ops:Array Oper)(draw:Bool)(K:Kont)(M:Mem):Res :=
 evOps E call ops ops.toList M [] λM fs=>cond (!draw||fpOk (Region.before ops) (ops.size-1) fs) (K .normal M) none
def evC(an:Ann)(n:Nat):Code->Kont->Mem->Res
 |.skip,K,M=>K .normal M
 |.label _,K,M=>K .normal M
 |.ret,K,M=>K .ret M
 |.exit id,K,M=>K (.exit id) M
 |.region id ops draw,K,M=>prune an id M (evR E call ops draw K)
 |.seq a b,K,M=>evC an n a (kSeq (evC an n b K) K) M
 |.cond c x y,K,M=>match c with
  |.tmp t=>match M.get (.slot t)with
   |some (.sv (.fv (.bool b)))=>cond b (evC an n x K M) (evC an n y K M)
   |_=>none
  |.const (.bool true)=>evC an n x K M
  |.const (.bool false)=>evC an n y K M
  |_=>none
 |.block id c,K,M=>evC an n c (kBlock id K) M
 |.scope c,K,M=>evC an n c K M
 |.loop c,K,M=>prune an (q4a c) M (evLoop (q4a c) (λK' M'=>evC an n c K' M') K (prune an (q4a c)) n)
 |_,_,_=>none
def resOf:List ResultVar->(List SV->RT)->RT
 |[],f=>f []
 |.tmp t::r,f=>.rd (.slot t) λe=>match e with | .sv v=>resOf r λvs=>f (v::vs) | _=>.fail
 |.cell a t::r,f=>.rd (.slot a) λe=>match e with | .sv p=>ty E t λi=>load i p λv=>resOf r λvs=>f (v::vs) | _=>.fail
def kept:SV->SV
 |.fv _ | .agg _ | .fp _ _ _ _=>.dead
 |v=>v
def rdPins:Nat->List SV->(List SV->RT)->RT
 |_,[],f=>f []
 |j,s::r,f=>match s with
  |.dead=>rdPins (j+1) r λvs=>f (.dead::vs)
  |_=>.rd (.slot j) λe=>match e with | .sv v=>rdPins (j+1) r λvs=>f (v::vs) | _=>.fail
def kRet(fn:Func)(i:FnI)(ps:List SV):Kont
 |.exit _,_=>none
 |_,M=>(rdPins 0 ps λqs=>resOf E fn.results.toList λrs=>ext i.tout (qs++rs) [] [] λL _ _=>tell L).told M some
end
def q7x:Nat->List SV->List Nat
 |_,[]=>[]
 |j,s::r=>match s with
  |.dead=>q7x (j+1) r
  |_=>j::q7x (j+1) r
def notElem(d:Nat):List Nat->Bool
 |[]=>true
 |x::r=>!(Nat.beq x d)&&notElem d r
def opOk(nt:Nat)(pins:List Nat)(o:Oper):Bool :=
 (match o.dst with | some d=>Nat.ble (d+1) nt&&notElem d pins | none=>true)&&(match o.op,o.dst with | .store _ _ _,some _=>false | _,_=>true)
def topoEdges(i:Nat):List Edge->Bool
 |[]=>true
 |e::r=>(!Region.binds .any e||Nat.ble (e.on+1) i)&&topoEdges i r
def opsOk(nt:Nat)(pins:List Nat):Nat->List Oper->Bool
 |_,[]=>true
 |i,o::r=>opOk nt pins o&&topoEdges i o.after.toList&&opsOk nt pins (i+1) r
def codeOk(nt:Nat)(pins:List Nat):Code->Bool
 |.region _ ops _=>opsOk nt pins 0 ops.toList
 |.seq a b=>codeOk nt pins a&&codeOk nt pins b
 |.cond _ a b=>codeOk nt pins a&&codeOk nt pins b
 |.block _ c=>codeOk nt pins c
 |.scope c=>codeOk nt pins c
 |.loop c=>codeOk nt pins c
 |_=>true
def evFb(E:Env)(call:FuncId->List FV->Res)(n:Nat)(f:FuncId)(L:List FV):Res :=
 match E.fn f,E.fc f with
 |some i,some fn=>match fn.body,bld (namesFrom 1000 (owns i.tin)) 0 i.tin L with
  |some c,some (us,vs,[])=>bif flatOk 0 i.tin&&codeOk fn.ntmps (q7x 0 (vs.map kept)) c then evC E call i.ann n c (kRet E fn i (vs.map kept)) (putSlots (namesFrom 0 vs.length) vs++us)else none
  |_,_=>none
 |_,_=>none
def evF(E:Env):Nat->FuncId->List FV->Res
 |0=>λ_ _=>none
 |n+1=>λf L=>match E.ext f with
  |some g=>g L
  |none=>evFb E (evF E n) n f L
def sub:Code->List Nat->Code
 |c,[]=>c
 |.seq a b,i::p=>bif Nat.beq i 0 then sub a p else sub b p
 |.cond _ a b,i::p=>bif Nat.beq i 0 then sub a p else sub b p
 |.block _ c,_::p=>sub c p
 |.scope c,_::p=>sub c p
 |.loop c,_::p=>sub c p
 |_,_=>.skip
section
variable (E:Env) (call:FuncId->List FV->Res) (an:Ann) (n:Nat)
def ctxK:Code->List Nat->List Nat->Kont->Kont
 |.seq a b,i::p,ms,K=>bif Nat.beq i 0 then ctxK a p ms (kSeq (evC E call an n b K) K)else ctxK b p ms K
 |.cond _ a b,i::p,ms,K=>bif Nat.beq i 0 then ctxK a p ms K else ctxK b p ms K
 |.block id c,_::p,ms,K=>ctxK c p ms (kBlock id K)
 |.scope c,_::p,ms,K=>ctxK c p ms K
 |.loop c,_::p,m::ms,K=>ctxK c p ms (kSeq (λM'=>prune an (q4a c) M' (evLoop (q4a c) (λK' M'=>evC E call an n c K' M') K (prune an (q4a c)) m)) K)
 |_,_,_,K=>K
end
def Lp(E:Env)(n:Nat)(f:FuncId)(path ms:List Nat)(m:Nat)(L:List FV):Res :=
 match E.fn f,E.fc f with
 |some i,some fn=>match fn.body with
  |some c=>match sub c path with
   |.loop b=>match annAt i.ann (q4a b)with
    |some (ts,T)=>evLoop (q4a b) (λK' M'=>evC E (evF E n) i.ann n b K' M')
      (ctxK E (evF E n) i.ann n c path ms (kRet E fn i (ownIn i.tin 0))) (prune i.ann (q4a b)) m (memOf ts T L)
    |none=>none
   |_=>none
  |none=>none
 |_,_=>none
where
 ownIn (T:List Tok) (_:Nat):List SV:=match bld (namesFrom 1000 (owns T)) 0 T (T.flatMap λt=>match t with | .own sz=>[.list sz []] | .fpt sz=>[.ref sz (.agg [])] | .skip | .obj _ | .ref _ | .agg _ | .clo _ _=>[] | .mapt _ _ _=>[.list 3 [],.int .i64 0] | _=>[.agg []])with
  |some (_,vs,_)=>vs.map kept
  |none=>[]
theorem qSx(m:Nat)(h:1<=m:=by omega):∃k,m=k+1:=⟨m-1,by omega⟩
abbrev iI(z:Int):FV:=.int .i64 z
abbrev iL(l:List FV):FV:=.list 1 l
abbrev k26(a:Int)(b:Int)(c:List FV)(d:Int)(e:Int)(f:List FV)(g:List FV)(h:List FV)(i:List FV)(j:List FV)(k:List FV)(l:ByteArray)(m:ByteArray)(n:Bool)(o:Int)(p:List FV)(q:List FV)(r:List FV)(s:List FV)(t:Bool)(u:List FV)(v:Bool)(w:List FV)(x:Bool)(y:List FV)(z:Bool)(r':List FV):List FV:=iI a::iI b::FV.list 3 c::iI d::iI e::FV.list 7 f::FV.list 8 g::iL h::iL i::iL j::iL k::FV.str l::FV.str m::FV.bool n::iI o::FV.list 4 p::iL q::iL r::iL s::FV.bool t::iL u::FV.bool v::iL w::FV.bool x::iL y::FV.bool z::r'
abbrev k15(a:Int)(b:Int)(c:List FV)(d:Int)(e:Int)(f:List FV)(g:List FV)(h:List FV)(i:List FV)(j:List FV)(k:List FV)(l:ByteArray)(m:ByteArray)(n:Bool)(o:Int)(r':List FV):List FV:=iI a::iI b::FV.list 3 c::iI d::iI e::FV.list 7 f::FV.list 8 g::iL h::iL i::iL j::iL k::FV.str l::FV.str m::FV.bool n::iI o::r'
abbrev k8(a:List FV)(b:List FV)(c:List FV)(d:List FV)(e:ByteArray)(f:ByteArray)(g:Bool)(h:Int)(r':List FV):List FV:=iL a::iL b::iL c::iL d::FV.str e::FV.str f::FV.bool g::iI h::r'
abbrev kB(a:ByteArray)(b:Int)(c:Int)(d:Bool)(e:Int)(f:List FV)(g:Int)(h:Int)(r':List FV):List FV:=FV.str a::iI b::iI c::FV.bool d::iI e::iL f::iI g::iI h::r'
abbrev kS(a:ByteArray)(b:Int)(c:Int)(d:Int)(e:Bool)(f:Int)(g:Int)(r':List FV):List FV:=FV.str a::iI b::iI c::iI d::FV.bool e::iI f::iI g::r'
abbrev k7(a:Int)(b:Int)(c:List FV)(d:Int)(e:Int)(f:List FV)(g:List FV)(r':List FV):List FV:=iI a::iI b::FV.list 3 c::iI d::iI e::FV.list 7 f::FV.list 8 g::r'
abbrev k5(a:Int)(b:Int)(c:List FV)(d:Int)(e:Int)(r':List FV):List FV:=iI a::iI b::FV.list 3 c::iI d::iI e::r'
abbrev kQ(a:Bool)(b:List FV)(c:Bool)(d:List FV)(r':List FV):List FV:=FV.bool a::iL b::FV.bool c::iL d::r'
abbrev r27(r:List FV)(f:Int->Int->List FV->Int->Int->List FV->List FV->List FV->List FV->List FV->List FV->ByteArray->ByteArray->Bool->Int->List FV->List FV->List FV->List FV->Bool->List FV->Bool->List FV->Bool->List FV->Bool->Bool->Res):Res:=(asInt .i64 r[0]?).bind λx0=>(asInt .i64 r[1]?).bind λx1=>(asLst 3 r[2]?).bind λx2=>(asInt .i64 r[3]?).bind λx3=>(asInt .i64 r[4]?).bind λx4=>(asLst 7 r[5]?).bind λx5=>(asLst 8 r[6]?).bind λx6=>(asLst 1 r[7]?).bind λx7=>(asLst 1 r[8]?).bind λx8=>(asLst 1 r[9]?).bind λx9=>(asLst 1 r[10]?).bind λx10=>(asStr r[11]?).bind λx11=>(asStr r[12]?).bind λx12=>(asBool r[13]?).bind λx13=>(asInt .i64 r[14]?).bind λx14=>(asLst 4 r[15]?).bind λx15=>(asLst 1 r[16]?).bind λx16=>(asLst 1 r[17]?).bind λx17=>(asLst 1 r[18]?).bind λx18=>(asBool r[19]?).bind λx19=>(asLst 1 r[20]?).bind λx20=>(asBool r[21]?).bind λx21=>(asLst 1 r[22]?).bind λx22=>(asBool r[23]?).bind λx23=>(asLst 1 r[24]?).bind λx24=>(asBool r[25]?).bind λx25=>(asBool r[26]?).bind λx26=>f x0 x1 x2 x3 x4 x5 x6 x7 x8 x9 x10 x11 x12 x13 x14 x15 x16 x17 x18 x19 x20 x21 x22 x23 x24 x25 x26
end Rf
end
namespace Rf
open Go
section
inductive All2{α β:Type}(R:α->β->Prop):List α->List β->Prop
 |nil:All2 R [] []
 |cons {x:α} {y:β} {xs:List α} {ys:List β} (h:R x y) (t:All2 R xs ys):All2 R (x::xs) (y::ys)
theorem All2.mono{α β:Type}{R R':α->β->Prop}(hR:∀x y,R x y->R' x y){xs:List α}{ys:List β}(h:All2 R xs ys):All2 R' xs ys:=by
 induction h with
 |nil=>exact .nil
 |cons h _ ih=>exact .cons (hR _ _ h) ih
theorem All2.app{α β:Type}{R:α->β->Prop}{xs xs':List α}{ys ys':List β}(h:All2 R xs ys)(k:All2 R xs' ys'):All2 R (xs++xs') (ys++ys'):=by
 induction h with
 |nil=>exact k
 |cons h _ ih=>exact .cons h ih
theorem All2.len{α β:Type}{R:α->β->Prop}{xs:List α}{ys:List β}(h:All2 R xs ys):xs.length=ys.length:=by
 induction h with
 |nil=>rfl
 |cons _ _ ih=>simp[ih]
theorem All2.get{α β:Type}{R:α->β->Prop}{xs:List α}{ys:List β}(h:All2 R xs ys):∀(j:Nat) (x:α),xs[j]?=some x->∃y,ys[j]?=some y/\R x y:=by
 induction h with
 |nil=>intro j x hj;simp at hj
 |cons h _ ih =>
  intro j x hj;cases j with
  |zero=>simp at hj;subst hj;exact⟨_,rfl,h⟩
  |succ j=>simpa using ih j x (by simpa using hj)
theorem All2.of{α β:Type}{R:α->β->Prop}:∀ {xs:List α} {ys:List β},xs.length=ys.length->(∀(j:Nat) (x:α) (y:β),xs[j]?=some x->ys[j]?=some y->R x y)->All2 R xs ys
 |[],[],_,_=>.nil
 |[],_::_,h,_=>by simp at h
 |_::_,[],h,_=>by simp at h
 |x::xs,y::ys,h,k=>.cons (k 0 x y rfl rfl) (All2.of (by simpa using h) λj x' y' h1 h2=>k (j+1) x' y' (by simpa using h1) (by simpa using h2))
theorem All2.drop{α β:Type}{R:α->β->Prop}{xs:List α}{ys:List β}(h:All2 R xs ys):∀n,All2 R (xs.drop n) (ys.drop n):=by
 induction h with
 |nil=>intro n;simp;exact .nil
 |cons h t ih =>
  intro n;cases n with
  |zero=>exact .cons h t
  |succ n=>simpa using ih n
theorem All2.take{α β:Type}{R:α->β->Prop}{xs:List α}{ys:List β}(h:All2 R xs ys):∀n,All2 R (xs.take n) (ys.take n):=by
 induction h with
 |nil=>intro n;simp;exact .nil
 |cons h t ih =>
  intro n;cases n with
  |zero=>exact .nil
  |succ n=>simpa using .cons h (ih n)
theorem All2.ofArr{R:SV->Value->Prop}{cs:List SV}{vs:Array Value}(hl:vs.size=cs.length)(h:∀(j:Nat) (s:SV),cs[j]?=some s->R s (vs.getD j undef)):All2 R cs vs.toList :=
 .of (by simpa using hl.symm) λj s v hs hv=>by
  have:=h j s hs;rwa[Az,<- BA,hv,Bg]at this
theorem All2.toArr{R:SV->Value->Prop}{cs:List SV}{vs:Array Value}(h:All2 R cs vs.toList):vs.size=cs.length/\∀(j:Nat) (s:SV),cs[j]?=some s->R s (vs.getD j undef) :=
 ⟨by have:=h.len;simp at this;omega,λj s hs=>by
  obtain⟨y,h1,h2⟩:=h.get j s hs
  rw[Az,<- BA,h1,Bg];exact h2⟩
def cellAt(w:World)(b i:Nat):Option Value:=w.cell? ⟨b,i,none⟩
theorem q5c{w:World}{b i:Nat}{c:Array Value}{e:TypeId}{f:Nat×Nat}(h:w.heap[b]?=some (.cells c e f)):cellAt w b i=c[i]?:=by
 simp[cellAt,World.cell?,h]
theorem q9d{w w':World}{b:Nat}(h:w'.heap[b]?=w.heap[b]?)(i:Nat):cellAt w' b i=cellAt w b i:=by
 simp[cellAt,World.cell?,h]
def El(sz:Nat)(x:FV):Prop:=x.cells.length=sz/\∀c,c∈x.cells->c.flat=true
inductive FRep(w:World)(S:Nat->Prop):FV->Value->Prop
 |int (k:IntKind) (n:Int):FRep w S (.int k n) (.int k n)
 |bool (b:Bool):FRep w S (.bool b) (.bool b)
 |str (s:ByteArray):FRep w S (.str s) (.string s)
 |raw (v:Value):FRep w S (.raw v) v
 |agg (cs:List FV) (vs:Array Value) (hs:vs.size=cs.length) (h:∀j c,cs[j]?=some c->FRep w S c (vs.getD j undef)):FRep w S (.agg cs) (.agg vs)
 |list (sz:Nat) (xs:List FV) (a:Option Addr) (cap b o:Nat) (hc:xs.length<=cap) (hsz:∀x,x∈xs->El sz x)
   (ha:xs≠[]->a=some ⟨b,o,none⟩/\S b)
   (hv:∀i j x c,xs[i]?=some x->x.cells[j]?=some c->(cellAt w b (o+(i*sz+j))).isSome=true)
   (hr:∀i j x c,xs[i]?=some x->x.cells[j]?=some c->FRep w S c ((cellAt w b (o+(i*sz+j))).getD undef)) :
   FRep w S (.list sz xs) (.slice a xs.length cap)
 |ref (sz:Nat) (x:FV) (b o:Nat) (hS:S b) (hsz:El sz x) (hv:∀j c,x.cells[j]?=some c->(cellAt w b (o+j)).isSome=true)
   (hr:∀j c,x.cells[j]?=some c->FRep w S c ((cellAt w b (o+j)).getD undef)):FRep w S (.ref sz x) (.pointer (some ⟨b,o,none⟩))
def Row(w:World)(S:Nat->Prop)(b o sz:Nat)(xs:List FV):Prop :=
 (∀x,x∈xs->El sz x)/\∀i j x c,xs[i]?=some x->x.cells[j]?=some c->∃v,cellAt w b (o+(i*sz+j))=some v/\FRep w S c v
theorem FRep.q30{w:World}{S:Nat->Prop}{sz:Nat}{xs:List FV}{v:Value} :
  FRep w S (.list sz xs) v↔∃a cap b o,v=.slice a xs.length cap/\xs.length<=cap/\(xs≠[]->a=some ⟨b,o,none⟩/\S b)/\Row w S b o sz xs:=by
 constructor
 ·intro h;cases h with
  |list sz xs a cap b o hc hsz ha hv hr =>
   refine⟨a,cap,b,o,rfl,hc,ha,hsz,λi j x c h1 h2=>?_⟩;have h3:=hv i j x c h1 h2;have h4:=hr i j x c h1 h2;cases h5:cellAt w b (o+(i*sz+j))with
   |none=>simp[h5]at h3
   |some v=>exact⟨v,rfl,by simpa[h5]using h4⟩
 ·rintro⟨a,cap,b,o,rfl,hc,ha,hsz,hr⟩;refine .list sz xs a cap b o hc hsz ha (λi j x c h1 h2=>?_) (λi j x c h1 h2=>?_)
  ·obtain⟨v,h3,_⟩:=hr i j x c h1 h2;simp[h3]
  ·obtain⟨v,h3,h4⟩:=hr i j x c h1 h2;simpa[h3]using h4
theorem FRep.qfk{w:World}{S:Nat->Prop}{sz:Nat}{x:FV}{v:Value}:FRep w S (.ref sz x) v↔∃b o,v=.pointer (some ⟨b,o,none⟩)/\S b/\Row w S b o sz [x]:=by
 constructor
 ·intro h;cases h with
  |ref sz x b o hS hsz hv hr =>
   refine⟨b,o,rfl,hS,λy hy=>by rw[BK.1 hy];exact hsz,λi j y c h1 h2=>?_⟩;cases i with
   |succ i=>simp at h1
   |zero =>
    simp only[Aj,AH]at h1;subst h1;have h3:=hv j c h2;have h4:=hr j c h2;rw[show 0*sz+j=j by omega];cases h5:cellAt w b (o+j)with
    |none=>simp[h5]at h3
    |some v=>exact⟨v,rfl,by simpa[h5]using h4⟩
 ·rintro⟨b,o,rfl,hS,hsz,hr⟩;refine .ref sz x b o hS (hsz x (by simp)) (λj c h=>?_) (λj c h=>?_)
  ·obtain⟨v,h3,_⟩:=hr 0 j x c rfl h;rw[show 0*sz+j=j by omega]at h3;simp[h3]
  ·obtain⟨v,h3,h4⟩:=hr 0 j x c rfl h;rw[show 0*sz+j=j by omega]at h3;simpa[h3]using h4
theorem FRep.mono{w w':World}{S S':Nat->Prop}(hw:∀b,S b->w'.heap[b]?=w.heap[b]?)(hS:∀b,S b->S' b){x:FV}{v:Value}(h:FRep w S x v):FRep w' S' x v:=by
 induction h with
 |int k n=>exact .int k n
 |bool b=>exact .bool b
 |str s=>exact .str s
 |raw v=>exact .raw v
 |agg cs vs hs _ ih=>exact .agg cs vs hs ih
 |list sz xs a cap b o hc hsz ha hv _ ih =>
  have hb:∀(i:Nat) (x:FV),xs[i]?=some x->w'.heap[b]?=w.heap[b]?:=λi x hx=>hw b (ha (by intro h0;simp[h0]at hx)).2;refine .list sz xs a cap b o hc hsz (λh=>⟨(ha h).1,hS _ (ha h).2⟩) (λi j x c h1 h2=>?_) (λi j x c h1 h2=>?_)
  ·rw[q9d (hb i x h1)];exact hv i j x c h1 h2
  ·rw[q9d (hb i x h1)];exact ih i j x c h1 h2
 |ref sz x b o hs hsz hv _ ih =>
  refine .ref sz x b o (hS _ hs) hsz (λj c h=>?_) (λj c h=>?_)
  ·rw[q9d (hw b hs)];exact hv j c h
  ·rw[q9d (hw b hs)];exact ih j c h
theorem Row.mono{w w':World}{S S':Nat->Prop}{b o sz:Nat}{xs:List FV}(hw:∀b,S b->w'.heap[b]?=w.heap[b]?)(hS:∀b,S b->S' b)(hb:w'.heap[b]?=w.heap[b]?)(h:Row w S b o sz xs) :
  Row w' S' b o sz xs :=
 ⟨h.1,λi j x c h1 h2=>let ⟨v,h3,h4⟩:=h.2 i j x c h1 h2;⟨v,by rw[q9d hb];exact h3,h4.mono hw hS⟩⟩
structure Gh where
 blk:Nat
 off:Nat
 cap:Nat
 nil:Bool
def Gh.base(g:Gh):Option Addr:=if g.nil then none else some ⟨g.blk,g.off,none⟩
inductive ObK where
 |n (k:Nat)
 |m (kag:Bool) (ks:List CK) (z:FV)
def Ent.ob:Ent->Option ObK
 |.obj n=>some (.n n)
 |.mapH kag ks z=>some (.m kag ks z)
 |_=>none
def SV.refId:SV->Option Nat
 |.ptr id _ | .ept id _ _ _ | .sl id _ | .mp id=>some id
 |_=>none
inductive SRep(w:World)(S:Nat->Prop)(γ:Nat->Gh)(hd:Nat->Option Ent):SV->Value->Prop
 |fv {x:FV} {v:Value} (h:FRep w S x v):SRep w S γ hd (.fv x) v
 |nilS:SRep w S γ hd .nilS (.slice none 0 0)
 |mp {id:Nat} {e:Ent} {kag:Bool} {ks:List CK} {z:FV} (h:hd id=some e) (he:e.ob=some (.m kag ks z)):SRep w S γ hd (.mp id) (.map (some (γ id).blk))
 |ptr {id off:Nat} {e:Ent} {n:Nat} (h:hd id=some e) (he:e.ob=some (.n n)):SRep w S γ hd (.ptr id off) (.pointer (some ⟨(γ id).blk,off,none⟩))
 |ept {id sz i c len:Nat} {e:Ent} (h:hd id=some e) (he:e.row=some (sz,len)) (hn:(γ id).nil=false) (hi:i<len) :
   SRep w S γ hd (.ept id sz i c) (.pointer (some ⟨(γ id).blk,(γ id).off+(i*sz+c),none⟩))
 |sl {id sz len:Nat} {e:Ent} (h:hd id=some e) (he:e.row=some (sz,len)):SRep w S γ hd (.sl id none) (.slice (γ id).base len (γ id).cap)
 |view {id sz len o n c:Nat} {e:Ent} {a:Option Addr} (h:hd id=some e) (he:e.row=some (sz,len)) (hon:o+n<=len) (hc:n<=c)
   (ha:n≠0->(γ id).nil=false/\a=some ⟨(γ id).blk,(γ id).off+o*sz,none⟩) (h0:o=0->a=(γ id).base/\c=(γ id).cap) :
   SRep w S γ hd (.sl id (some (o,n))) (.slice a n c)
 |fp {sz i c b o:Nat} {xs:List FV} (hS:S b) (hr:Row w S b o sz xs) (hi:i<xs.length) :
   SRep w S γ hd (.fp sz xs i c) (.pointer (some ⟨b,o+(i*sz+c),none⟩))
 |clo {fn:Fn} {fs cs:List SV} {f c:Array Value} (hf:f.size=fs.length) (hc:c.size=cs.length)
   (h1:∀j s,fs[j]?=some s->SRep w S γ hd s (f.getD j undef)) (h2:∀j s,cs[j]?=some s->SRep w S γ hd s (c.getD j undef)) :
   SRep w S γ hd (.clo fn fs cs) (.func fn f c)
 |agg {cs:List SV} {vs:Array Value} (hs:vs.size=cs.length) (h:∀j s,cs[j]?=some s->SRep w S γ hd s (vs.getD j undef)):SRep w S γ hd (.agg cs) (.agg vs)
 |tup {cs:List SV} {vs:Array Value} (hs:vs.size=cs.length) (h:∀j s,cs[j]?=some s->SRep w S γ hd s (vs.getD j undef)):SRep w S γ hd (.tup cs) (.tuple vs)
 |dead {v:Value}:SRep w S γ hd .dead v
 |gone:SRep w S γ hd .gone undef
 |tomb {s:SV} {id:Nat} {v:Value} (hs:s.refId=some id) (h:hd id=some .tomb):SRep w S γ hd s v
def HdLe(hd hd':Nat->Option Ent)(γ γ':Nat->Gh):Prop :=
 ∀id e,hd id=some e->∃e',hd' id=some e'/\(e'=.tomb\/(e'.row=e.row/\e'.ob=e.ob/\(e=.tomb->e'=.tomb)/\γ' id=γ id))
theorem HdLe.refl(hd:Nat->Option Ent)(γ:Nat->Gh):HdLe hd hd γ γ:=λ_ e h=>⟨e,h,.inr ⟨rfl,rfl,id,rfl⟩⟩
theorem SRep.mono{w w':World}{S S':Nat->Prop}{γ γ':Nat->Gh}{hd hd':Nat->Option Ent}(hw:∀b,S b->w'.heap[b]?=w.heap[b]?)(hS:∀b,S b->S' b)(hh:HdLe hd hd' γ γ')
  {s:SV} {v:Value} (h:SRep w S γ hd s v):SRep w' S' γ' hd' s v:=by
 induction h with
 |fv h=>exact .fv (h.mono hw hS)
 |nilS=>exact .nilS
 |@ptr id off e n h he =>
  obtain⟨e',h',k⟩:=hh id e h;rcases k with rfl | ⟨k1,k2,k3,k4⟩
  ·exact .tomb rfl h'
  ·rw[<- k4];exact .ptr h' (k2.trans he)
 |@mp id e kag ks z h he =>
  obtain⟨e',h',k⟩:=hh id e h;rcases k with rfl | ⟨k1,k2,k3,k4⟩
  ·exact .tomb rfl h'
  ·rw[<- k4];exact .mp h' (k2.trans he)
 |@ept id sz i c len e h he hn hi =>
  obtain⟨e',h',k⟩:=hh id e h;rcases k with rfl | ⟨k1,k2,k3,k4⟩
  ·exact .tomb rfl h'
  ·rw[<- k4];exact .ept h' (k1.trans he) (by rw[k4];exact hn) hi
 |@sl id sz len e h he =>
  obtain⟨e',h',k⟩:=hh id e h;rcases k with rfl | ⟨k1,k2,k3,k4⟩
  ·exact .tomb rfl h'
  ·rw[<- k4];exact .sl h' (k1.trans he)
 |@view id sz len o n c e a h he hon hc ha h0 =>
  obtain⟨e',h',k⟩:=hh id e h;rcases k with rfl | ⟨k1,k2,k3,k4⟩
  ·exact .tomb rfl h'
  ·exact .view h' (k1.trans he) hon hc (by rw[k4];exact ha) (by rw[k4];exact h0)
 |@fp sz i c b o xs hb hr hi=>exact .fp (hS _ hb) (hr.mono hw hS (hw b hb)) hi
 |clo hf hc _ _ ih1 ih2=>exact .clo hf hc ih1 ih2
 |agg hs _ ih=>exact .agg hs ih
 |tup hs _ ih=>exact .tup hs ih
 |dead=>exact .dead
 |gone=>exact .gone
 |@tomb s id v hs h =>
  obtain⟨e',h',k⟩:=hh id _ h;rcases k with rfl | ⟨k1,k2,k3,k4⟩
  ·exact .tomb hs h'
  ·exact .tomb hs (by rw[h',k3 rfl])
def hdOf(M:Mem)(id:Nat):Option Ent:=Mem.get (.head id) M
theorem Key.beq_iff(a b:Key):a.beq b=true↔a=b:=by
 cases a <;> cases b <;> simp[Key.beq]
theorem Mem.qj(k k':Key)(e:Ent)(M:Mem):Mem.get k ((k',e)::M)=if k=k' then some e else Mem.get k M:=by
 simp only[Mem.get];by_cases h:k=k'
 ·rw[if_pos h,(Key.beq_iff k k').2 h];rfl
 ·rw[if_neg h];have:k.beq k'=false:=by
   cases hb:k.beq k' with
   |false=>rfl
   |true=>exact absurd ((Key.beq_iff k k').1 hb) h
  rw[this];rfl
theorem Mem.get_append(k:Key)(us M:Mem):Mem.get k (us++M)=(Mem.get k us).or (Mem.get k M):=by
 induction us with
 |nil=>simp[Mem.get]
 |cons p us ih =>
  obtain⟨k',e⟩:=p;rw[Al,Mem.qj,Mem.qj,ih];split <;> simp
def ERep(w:World)(S:Nat->Prop)(kag:Bool)(ks:List CK)(z:FV)(x:FV)(e:MapEntry):Prop :=
 ∃k v,x=.agg [k,v,.int .i64 e.born]/\q2k kag ks k=true/\q32 z v=true/\FRep w S k e.key/\FRep w S v e.val
theorem ERep.mono{w w':World}{S S':Nat->Prop}{kag:Bool}{ks:List CK}{z x:FV}{e:MapEntry}(hw:∀b,S b->w'.heap[b]?=w.heap[b]?)(hS:∀b,S b->S' b)(h:ERep w S kag ks z x e):ERep w' S' kag ks z x e :=
 let ⟨k,v,a,b,c,d,f⟩:=h;⟨k,v,a,b,c,d.mono hw hS,f.mono hw hS⟩
def MRep(w:World)(S:Nat->Prop)(g:Gh)(kag:Bool)(ks:List CK)(z:FV)(es:List FV)(clk:Int):Prop :=
 ∃(arr:Array MapEntry) (c:Nat),w.heap[g.blk]?=some (.map arr c)/\clk=c/\MapKept.Stamped arr c/\q32 z z=true/\All2 (ERep w S kag ks z) es arr.toList
theorem MRep.mono{w w':World}{S S':Nat->Prop}{g:Gh}{kag:Bool}{ks:List CK}{z:FV}{es:List FV}{clk:Int}(hw:∀b,S b->w'.heap[b]?=w.heap[b]?)(hS:∀b,S b->S' b)(hb:w'.heap[g.blk]?=w.heap[g.blk]?)
  (h:MRep w S g kag ks z es clk):MRep w' S' g kag ks z es clk :=
 let ⟨arr,c,a,b,d,dz,e⟩:=h;⟨arr,c,hb.trans a,b,d,dz,e.mono λ_ _ q=>q.mono hw hS⟩
def ORep(w:World)(S:Nat->Prop)(γ:Nat->Gh)(M:Mem)(id:Nat):Ent->Prop
 |.obj n=>(γ id).nil=false/\∃vals e,w.heap[(γ id).blk]?=some (.cells vals e (0,0))/\vals.size=n /\
   ∀j,j<n->∃s,Mem.get (.cell id j) M=some (.sv s)/\s.flat=true/\SRep w S γ (hdOf M) s (vals.getD j undef)
 |.vec sz xs=>xs.length<=(γ id).cap/\(if(γ id).nil=true then xs=[]/\(γ id).cap=0 else
   ∃vals e,w.heap[(γ id).blk]?=some (.cells vals e (0,0))/\(γ id).off+(γ id).cap*sz<=vals.size/\Row w S (γ id).blk (γ id).off sz xs)
 |.frz sz xs=>xs.length<=(γ id).cap/\(if(γ id).nil=true then xs=[]/\(γ id).cap=0 else(S (γ id).blk/\Row w S (γ id).blk (γ id).off sz xs))
 |.mapH kag ks z=>(γ id).nil=false/\∃es clk es' clk',Mem.get (.cell id 0) M=some (.map es clk)/\Mem.get (.cell id 1) M=some (.map es' clk')/\(∀k,mgetD es' k z=mgetD es k z)/\MRep w S (γ id) kag ks z es clk
 |.tomb=>True
 |_=>False
def Owned(γ:Nat->Gh)(id:Nat):Ent->Prop
 |.obj _=>True
 |.mapH _ _ _=>True
 |.vec _ _=>(γ id).nil=false
 |_=>False
structure Cx where
 w0:World
 S0:Nat->Prop
 W0:Nat->Prop
 nt:Nat
 pin:Nat->Option Value
def Cx.Dst(X:Cx)(d:Nat):Prop:=d<X.nt/\X.pin d=none
def Tabs(w:World)(S:Nat->Prop):Prop:=∀g cs,(g,cs)∈tabs->S g/\∃e t,w.heap[g]?=some (.cells cs e t)
def TabOk(X:Cx):Prop:=Tabs X.w0 X.S0/\∀b,X.W0 b->¬ X.S0 b
structure Keep(X:Cx)(w:World)(S:Nat->Prop):Prop where
 size:X.w0.heap.size<=w.heap.size
 block:∀b,b<X.w0.heap.size->¬ X.W0 b->w.heap[b]?=X.w0.heap[b]?
 os:w.os=X.w0.os
 tape:w.tape=X.w0.tape
 output:w.output=X.w0.output
 bound:∀b,S b->b<w.heap.size
 smon:∀b,X.S0 b->S b
 q8d:∀b,S b->X.S0 b\/X.W0 b\/X.w0.heap.size<=b
 tab:TabOk X
theorem Keep.tabs{X:Cx}{w:World}{S:Nat->Prop}(h:Keep X w S):Tabs w S:=λg cs hg=>by
 obtain⟨h1,e,t,h2⟩:=h.tab.1 g cs hg;have hlt:g<X.w0.heap.size:=by
  rcases Dj g X.w0.heap.size with q | q
  ·exact q
  ·rw[Dd q]at h2;cases h2
 exact⟨h.smon g h1,e,t,(h.block g hlt λq=>h.tab.2 g q h1).trans h2⟩
structure HRel(X:Cx)(M:Mem)(w:World)(γ:Nat->Gh)(S:Nat->Prop):Prop where
 keep:Keep X w S
 head:∀id e,hdOf M id=some e->ORep w S γ M id e
 own:∀id e,hdOf M id=some e->Owned γ id e->(γ id).blk<w.heap.size/\¬ S (γ id).blk/\(X.W0 (γ id).blk\/X.w0.heap.size<=(γ id).blk)
 inj:∀id e id' e',hdOf M id=some e->hdOf M id'=some e'->Owned γ id e->Owned γ id' e'->(γ id).blk=(γ id').blk->id=id'
structure Rel(X:Cx)(M:Mem)(a:Act)(w:World)(γ:Nat->Gh)(S:Nat->Prop):Prop extends HRel X M w γ S where
 nt:a.tmps.size=X.nt
 q2o:a.defers=[]
 pin:∀t v,X.pin t=some v->a.tmps.getD t undef=v
 slot:∀t s,Mem.get (.slot t) M=some (.sv s)->SRep w S γ (hdOf M) s (a.tmps.getD t undef)
theorem ORep.congr{w:World}{S:Nat->Prop}{γ:Nat->Gh}{M M':Mem}(h:∀k,Mem.get k M'=Mem.get k M){id:Nat}{e:Ent}(ho:ORep w S γ M id e):ORep w S γ M' id e:=by
 have hh:hdOf M'=hdOf M:=funext λid=>h _;cases e with
 |obj n =>
  obtain⟨h0,vals,e,h1,h2,h3⟩:=ho;exact⟨h0,vals,e,h1,h2,λj hj=>let ⟨s,a,b,c⟩:=h3 j hj;⟨s,(h _).trans a,b,by rw[hh];exact c⟩⟩
 |mapH kag ks z =>
  obtain⟨h0,es,clk,es',clk',h1,h2,h3⟩:=ho;exact⟨h0,es,clk,es',clk',(h _).trans h1,(h _).trans h2,h3⟩
 |_=>exact ho
theorem Rel.congr{X:Cx}{M M':Mem}{a:Act}{w:World}{γ:Nat->Gh}{S:Nat->Prop}(h:∀k,Mem.get k M'=Mem.get k M)(hR:Rel X M a w γ S):Rel X M' a w γ S:=by
 have hh:hdOf M'=hdOf M:=funext λid=>h _
 exact { keep:=hR.keep,head:=λid e he=>(hR.head id e (by rw[<- hh];exact he)).congr h,own:=λid e he=>hR.own id e (by rw[<- hh];exact he),
         inj:=λid e id' e' h1 h2=>hR.inj id e id' e' (by rw[<- hh];exact h1) (by rw[<- hh];exact h2),nt:=hR.nt,q2o:=hR.q2o,pin:=hR.pin,
         slot:=λt s hs=>by rw[hh];exact hR.slot t s (by rw[<- h];exact hs) }
theorem FRep.drawn{w:World}{S:Nat->Prop}{n:Nat}{x:FV}{v:Value}(h:FRep w S x v):FRep { w with drawn:=n } S x v:=h.mono (w:=w) (w':={ w with drawn:=n }) (λ_ _=>rfl) (λ_ h=>h)
theorem ORep.mono{w w':World}{S S':Nat->Prop}{γ:Nat->Gh}{M:Mem}(hw:∀b,S b->w'.heap[b]?=w.heap[b]?)(hS:∀b,S b->S' b){id:Nat}{e:Ent}
  (hb:Owned γ id e->w'.heap[(γ id).blk]?=w.heap[(γ id).blk]?) (ho:ORep w S γ M id e):ORep w' S' γ M id e:=by
 cases e with
 |obj n =>
  obtain⟨h0,vals,e,h1,h2,h3⟩:=ho;exact⟨h0,vals,e,(hb trivial).trans h1,h2,λj hj=>let ⟨s,a,b,c⟩:=h3 j hj;⟨s,a,b,c.mono hw hS (HdLe.refl _ _)⟩⟩
 |vec sz xs =>
  refine⟨ho.1,?_⟩;have h2:=ho.2;split
  ·rename_i hn;rw[if_pos hn]at h2;exact h2
  ·rename_i hn;rw[if_neg hn]at h2;have hn':(γ id).nil=false:=by simpa using hn
   obtain⟨vals,e,h1,h3,h4⟩:=h2;exact⟨vals,e,(hb hn').trans h1,h3,h4.mono hw hS (hb hn')⟩
 |frz sz xs =>
  refine⟨ho.1,?_⟩;have h2:=ho.2;split
  ·rename_i hn;rw[if_pos hn]at h2;exact h2
  ·rename_i hn;rw[if_neg hn]at h2;exact⟨hS _ h2.1,h2.2.mono hw hS (hw _ h2.1)⟩
 |mapH kag ks z =>
  obtain⟨h0,es,clk,es',clk',h1,h2,h3,h4⟩:=ho;exact⟨h0,es,clk,es',clk',h1,h2,h3,h4.mono hw hS (hb trivial)⟩
 |tomb=>trivial
 |sv _=>exact ho
 |map _ _=>exact ho
theorem Rel.drew{X:Cx}{M:Mem}{a:Act}{w:World}{γ:Nat->Gh}{S:Nat->Prop}(h:Rel X M a w γ S)(n:Nat):Rel X M a { w with drawn:=n } γ S :=
 { keep:=⟨h.keep.size,h.keep.block,h.keep.os,h.keep.tape,h.keep.output,h.keep.bound,h.keep.smon,h.keep.q8d,h.keep.tab⟩
   head:=λid e he=>(h.head id e he).mono (w:=w) (w':={ w with drawn:=n }) (λ_ _=>rfl) (λ_ h=>h) (λ_=>rfl)
   own:=h.own,inj:=h.inj,nt:=h.nt,q2o:=h.q2o,pin:=h.pin
   slot:=λt s hs=>(h.slot t s hs).mono (w:=w) (w':={ w with drawn:=n }) (λ_ _=>rfl) (λ_ h=>h) (HdLe.refl _ _) }
theorem qj4{a:Act}{d t:Nat}{v:Value}(hd:d<a.tmps.size):(a.put (some d) v).tmps.getD t undef=if t=d then v else a.tmps.getD t undef:=by
 simp only[Act.put,Az];by_cases h:t=d
 ·subst h;simp[hd]
 ·rw[if_neg h,Dx (BR h)]
theorem Rel.put{X:Cx}{M:Mem}{a:Act}{w:World}{γ:Nat->Gh}{S:Nat->Prop}(h:Rel X M a w γ S){d:Nat}(hd:X.Dst d){s:SV}{v:Value}(hs:SRep w S γ (hdOf M) s v) :
  Rel X ((.slot d,.sv s)::M) (a.put (some d) v) w γ S:=by
 have hk:∀k,(∀t,k≠.slot t)->Mem.get k ((.slot d,.sv s)::M)=Mem.get k M:=λk hk=>by rw[Mem.qj,if_neg (hk d)]
 have hh:hdOf ((.slot d,.sv s)::M)=hdOf M:=funext λid=>hk _ (by intro t;simp)
 refine { keep:=h.keep,head:=λid e he=>?_,own:=λid e he=>h.own id e (by rw[<- hh];exact he),inj:=λid e id' e' h1 h2=>h.inj id e id' e' (by rw[<- hh];exact h1) (by rw[<- hh];exact h2),
          nt:=by simp[Act.put,h.nt],q2o:=h.q2o,pin:=λt v' hp=>by
            rw[qj4 (by rw[h.nt];exact hd.1),if_neg (λq=>by subst q;rw[hd.2]at hp;cases hp)];exact h.pin t v' hp
          slot:=λt s' hs'=>?_ }
 ·have ho:=h.head id e (by rw[<- hh];exact he);cases e with
  |obj n =>
   obtain⟨h0,vals,e,h1,h2,h3⟩:=ho;exact⟨h0,vals,e,h1,h2,λj hj=>let ⟨s',x,y,z⟩:=h3 j hj;⟨s',by rw[hk _ (by intro t;simp)];exact x,y,by rw[hh];exact z⟩⟩
  |mapH kag ks z =>
   obtain⟨h0,es,clk,es',clk',h1,h2,h3⟩:=ho;exact⟨h0,es,clk,es',clk',by rw[hk _ (by intro t;simp)];exact h1,by rw[hk _ (by intro t;simp)];exact h2,h3⟩
  |_=>exact ho
 ·rw[qj4 (by rw[h.nt];exact hd.1),hh];rw[Mem.qj]at hs';by_cases ht:t=d
  ·subst ht;rw[if_pos rfl]at hs';rw[if_pos rfl];cases hs';exact hs
  ·rw[if_neg (by simpa using ht)]at hs';rw[if_neg ht];exact h.slot t s' hs'
end
section
structure But(b:Nat)(w w':World):Prop where
 size:w.heap.size<=w'.heap.size
 block:∀k,k≠b->k<w.heap.size->w'.heap[k]?=w.heap[k]?
 os:w'.os=w.os
 tape:w'.tape=w.tape
 output:w'.output=w.output
theorem But.refl(b:Nat)(w:World):But b w w:=⟨Ak _,λ_ _ _=>rfl,rfl,rfl,rfl⟩
theorem But.trans{b:Nat}{u v w:World}(h:But b u v)(k:But b v w):But b u w :=
 ⟨Bb h.size k.size,λi h1 h2=>(k.block i h1 (AR h2 h.size)).trans (h.block i h1 h2),k.os.trans h.os,k.tape.trans h.tape,k.output.trans h.output⟩
theorem But.drawn(b:Nat)(w:World)(n:Nat):But b w { w with drawn:=n }:=⟨Ak _,λ_ _ _=>rfl,rfl,rfl,rfl⟩
theorem But.new(w:World)(o:Obj):But w.heap.size w { w with heap:=w.heap.push o } :=
 ⟨by simp,λk _ hk=>by simp[Array.getElem?_push,Nat.ne_of_lt hk],rfl,rfl,rfl⟩
theorem Keep.but{X:Cx}{w w':World}{S:Nat->Prop}{b:Nat}(h:Keep X w S)(hb:But b w w')(ho:X.W0 b\/X.w0.heap.size<=b):Keep X w' S where
 size:=Bb h.size hb.size
 block:=λk h1 h2=>by
  rw[hb.block k (by rintro rfl;rcases ho with ho | ho;exact h2 ho;omega) (AR h1 h.size)];exact h.block k h1 h2
 os:=hb.os.trans h.os
 tape:=hb.tape.trans h.tape
 output:=hb.output.trans h.output
 bound:=λk hk=>AR (h.bound k hk) hb.size
 smon:=h.smon
 q8d:=h.q8d
 tab:=h.tab
theorem HRel.q8e{X:Cx}{M:Mem}{w w':World}{γ:Nat->Gh}{S:Nat->Prop}{b:Nat}(h:HRel X M w γ S)(hb:But b w w')(hS:¬ S b):∀k,S k->w'.heap[k]?=w.heap[k]? :=
 λk hk=>hb.block k (by rintro rfl;exact hS hk) (h.keep.bound k hk)
def Gh.upd(γ:Nat->Gh)(id:Nat)(g:Gh):Nat->Gh:=λi=>if i=id then g else γ i
theorem Gh.q2x(γ:Nat->Gh)(id:Nat)(g:Gh):Gh.upd γ id g id=g:=by simp[Gh.upd]
theorem Gh.q2z(γ:Nat->Gh){id i:Nat}(g:Gh)(h:i≠id):Gh.upd γ id g i=γ i:=by simp[Gh.upd,h]
theorem Owned.congr{γ γ':Nat->Gh}{id:Nat}{e:Ent}(h:γ' id=γ id)(ho:Owned γ' id e):Owned γ id e:=by
 cases e <;> simp_all[Owned]
theorem ORep.go{w w':World}{S S':Nat->Prop}{γ γ':Nat->Gh}{M M':Mem}(hw:∀b,S b->w'.heap[b]?=w.heap[b]?)(hS:∀b,S b->S' b)(hh:HdLe (hdOf M) (hdOf M') γ γ'){id:Nat}{e:Ent}
  (hg:γ' id=γ id) (hc:∀j,Mem.get (.cell id j) M'=Mem.get (.cell id j) M) (hb:Owned γ id e->w'.heap[(γ id).blk]?=w.heap[(γ id).blk]?) (ho:ORep w S γ M id e):ORep w' S' γ' M' id e:=by
 cases e with
 |obj n =>
  obtain⟨h0,vals,e,h1,h2,h3⟩:=ho;simp only[ORep,hg];exact⟨h0,vals,e,(hb trivial).trans h1,h2,λj hj=>let ⟨s,a,b,c⟩:=h3 j hj;⟨s,(hc j).trans a,b,c.mono hw hS hh⟩⟩
 |vec sz xs =>
  simp only[ORep,hg];exact(show ORep w' S' γ M id (.vec sz xs) from ho.mono hw hS hb)
 |frz sz xs =>
  simp only[ORep,hg];exact(show ORep w' S' γ M id (.frz sz xs) from ho.mono hw hS hb)
 |mapH kag ks z =>
  obtain⟨h0,es,clk,es',clk',h1,h2,h3,h4⟩:=ho;simp only[ORep,hg];exact⟨h0,es,clk,es',clk',(hc _).trans h1,(hc _).trans h2,h3,h4.mono hw hS (hb trivial)⟩
 |tomb=>trivial
 |sv _=>exact ho
 |map _ _=>exact ho
def q3z(id:Nat)(M M':Mem):Prop:=(∀i,i≠id->hdOf M' i=hdOf M i)/\(∀i j,i≠id->Mem.get (.cell i j) M'=Mem.get (.cell i j) M)/\∀t,Mem.get (.slot t) M'=Mem.get (.slot t) M
theorem Rel.gain{X:Cx}{M M':Mem}{a:Act}{w w':World}{γ:Nat->Gh}{S:Nat->Prop}(h:Rel X M a w γ S){id:Nat}{e:Ent}{g:Gh}(hf:hdOf M id=none)(hM:q3z id M M')
  (he:hdOf M' id=some e) (hb:But g.blk w w') (hS:¬ S g.blk) (hn:∀i e,hdOf M i=some e->Owned γ i e->(γ i).blk≠g.blk) (hl:g.blk<w'.heap.size)
  (hx:X.W0 g.blk\/X.w0.heap.size<=g.blk) (ho:HdLe (hdOf M) (hdOf M') γ (Gh.upd γ id g)->ORep w' S (Gh.upd γ id g) M' id e):Rel X M' a w' (Gh.upd γ id g) S:=by
 have hne:∀i e,hdOf M i=some e->i≠id:=λi e h1 h2=>by rw[h2,hf]at h1;simp at h1
 have hh:HdLe (hdOf M) (hdOf M') γ (Gh.upd γ id g):=λi e h1=>⟨e,by rw[hM.1 i (hne i e h1)];exact h1,.inr ⟨rfl,rfl,λh=>h,Gh.q2z γ g (hne i e h1)⟩⟩;have hw:=h.toHRel.q8e hb hS;have hS':∀b,S b->S b:=λ_ h=>h;have cases':∀i e',hdOf M' i=some e'->(i=id/\e'=e)\/(i≠id/\hdOf M i=some e'):=λi e' h1=>by
  by_cases hi:i=id
  ·subst hi;rw[he]at h1;exact .inl ⟨rfl,by simpa using h1.symm⟩
  ·exact .inr ⟨hi,by rw[<- hM.1 i hi];exact h1⟩
 refine { keep:=h.keep.but hb hx,head:=λi e' h1=>?_,own:=λi e' h1 h2=>?_,inj:=λi e1 j e2 h1 h2 o1 o2 hbk=>?_,nt:=h.nt,q2o:=h.q2o,pin:=h.pin,slot:=λt s hs=>?_ }
 ·rcases cases' i e' h1 with⟨rfl,rfl⟩ | ⟨hi,h1⟩
  ·exact ho hh
  ·exact(h.head i e' h1).go hw hS' hh (Gh.q2z γ g hi) (λj=>hM.2.1 i j hi) λow=>hb.block _ (hn i e' h1 ow) (h.own i e' h1 ow).1
 ·rcases cases' i e' h1 with⟨rfl,rfl⟩ | ⟨hi,h1⟩
  ·rw[Gh.q2x];exact⟨hl,hS,hx⟩
  ·have h2:=Owned.congr (Gh.q2z γ g hi) h2;rw[Gh.q2z γ g hi];have:=h.own i e' h1 h2;exact⟨AR this.1 hb.size,this.2⟩
 ·rcases cases' i e1 h1 with⟨rfl,rfl⟩ | ⟨hi,h1⟩ <;> rcases cases' j e2 h2 with⟨rfl,rfl⟩ | ⟨hj,h2⟩
  ·rfl
  ·rw[Gh.q2x,Gh.q2z γ g hj]at hbk;exact absurd hbk.symm (hn j e2 h2 (Owned.congr (Gh.q2z γ g hj) o2))
  ·rw[Gh.q2x,Gh.q2z γ g hi]at hbk;exact absurd hbk (hn i e1 h1 (Owned.congr (Gh.q2z γ g hi) o1))
  ·rw[Gh.q2z γ g hi,Gh.q2z γ g hj]at hbk;exact h.inj i e1 j e2 h1 h2 (Owned.congr (Gh.q2z γ g hi) o1) (Owned.congr (Gh.q2z γ g hj) o2) hbk
 ·rw[hM.2.2 t]at hs;exact(h.slot t s hs).mono hw hS' hh
theorem Rel.lose{X:Cx}{M M':Mem}{a:Act}{w:World}{γ:Nat->Gh}{S:Nat->Prop}(h:Rel X M a w γ S){id:Nat}(hM:q3z id M M')(he:hdOf M' id=some .tomb):Rel X M' a w γ S:=by
 have hh:HdLe (hdOf M) (hdOf M') γ γ:=λi e h1=>by
  by_cases hi:i=id
  ·subst hi;exact⟨_,he,.inl rfl⟩
  ·exact⟨e,by rw[hM.1 i hi];exact h1,.inr ⟨rfl,rfl,λh=>h,rfl⟩⟩
 have cases':∀i e',hdOf M' i=some e'->(i=id/\e'=.tomb)\/(i≠id/\hdOf M i=some e'):=λi e' h1=>by
  by_cases hi:i=id
  ·subst hi;rw[he]at h1;exact .inl ⟨rfl,by simpa using h1.symm⟩
  ·exact .inr ⟨hi,by rw[<- hM.1 i hi];exact h1⟩
 refine { keep:=h.keep,head:=λi e' h1=>?_,own:=λi e' h1 h2=>?_,inj:=λi e1 j e2 h1 h2 o1 o2 hbk=>?_,nt:=h.nt,q2o:=h.q2o,pin:=h.pin,slot:=λt s hs=>?_ }
 ·rcases cases' i e' h1 with⟨rfl,rfl⟩ | ⟨hi,h1⟩
  ·trivial
  ·exact(h.head i e' h1).go (λ_ _=>rfl) (λ_ h=>h) hh rfl (λj=>hM.2.1 i j hi) λ_=>rfl
 ·rcases cases' i e' h1 with⟨rfl,rfl⟩ | ⟨hi,h1⟩
  ·exact absurd h2 (by simp[Owned])
  ·exact h.own i e' h1 h2
 ·rcases cases' i e1 h1 with⟨rfl,rfl⟩ | ⟨hi,h1⟩
  ·exact absurd o1 (by simp[Owned])
  rcases cases' j e2 h2 with⟨rfl,rfl⟩ | ⟨hj,h2⟩
  ·exact absurd o2 (by simp[Owned])
  ·exact h.inj i e1 j e2 h1 h2 o1 o2 hbk
 ·rw[hM.2.2 t]at hs;exact(h.slot t s hs).mono (λ_ _=>rfl) (λ_ h=>h) hh
theorem Rel.change{X:Cx}{M M':Mem}{a:Act}{w w':World}{γ:Nat->Gh}{S:Nat->Prop}(h:Rel X M a w γ S){id:Nat}{e e':Ent}(hM:q3z id M M')(he:hdOf M id=some e)(ho:Owned γ id e)
  (he':hdOf M' id=some e') (hr:e'.row=e.row/\e'.ob=e.ob/\e≠.tomb) (hb:But (γ id).blk w w')
  (hn:HdLe (hdOf M) (hdOf M') γ γ->ORep w' S γ M' id e') (ho':Owned γ id e'):Rel X M' a w' γ S:=by
 have hh:HdLe (hdOf M) (hdOf M') γ γ:=λi e1 h1=>by
  by_cases hi:i=id
  ·subst hi;rw[he]at h1;cases h1;exact⟨e',he',.inr ⟨hr.1,hr.2.1,λh=>absurd h hr.2.2,rfl⟩⟩
  ·exact⟨e1,by rw[hM.1 i hi];exact h1,.inr ⟨rfl,rfl,λh=>h,rfl⟩⟩
 have own:=h.own id e he ho;have hw:=h.toHRel.q8e hb own.2.1;have cases':∀i e1,hdOf M' i=some e1->(i=id/\e1=e')\/(i≠id/\hdOf M i=some e1):=λi e1 h1=>by
  by_cases hi:i=id
  ·subst hi;rw[he']at h1;exact .inl ⟨rfl,by simpa using h1.symm⟩
  ·exact .inr ⟨hi,by rw[<- hM.1 i hi];exact h1⟩
 refine { keep:=h.keep.but hb own.2.2,head:=λi e1 h1=>?_,own:=λi e1 h1 h2=>?_,inj:=λi e1 j e2 h1 h2 o1 o2 hbk=>?_,nt:=h.nt,q2o:=h.q2o,pin:=h.pin,slot:=λt s hs=>?_ }
 ·rcases cases' i e1 h1 with⟨rfl,rfl⟩ | ⟨hi,h1⟩
  ·exact hn hh
  ·exact(h.head i e1 h1).go hw (λ_ h=>h) hh rfl (λj=>hM.2.1 i j hi) λow=>hb.block _ (λhbk=>hi (h.inj i e1 id e h1 he ow ho hbk)) (h.own i e1 h1 ow).1
 ·rcases cases' i e1 h1 with⟨rfl,rfl⟩ | ⟨hi,h1⟩
  ·exact⟨AR own.1 hb.size,own.2⟩
  ·have:=h.own i e1 h1 h2;exact⟨AR this.1 hb.size,this.2⟩
 ·rcases cases' i e1 h1 with⟨rfl,rfl⟩ | ⟨hi,h1⟩ <;> rcases cases' j e2 h2 with⟨rfl,rfl⟩ | ⟨hj,h2⟩
  ·rfl
  ·exact(h.inj j e2 i e h2 he o2 ho hbk.symm).symm
  ·exact h.inj i e1 j e h1 he o1 ho hbk
  ·exact h.inj i e1 j e2 h1 h2 o1 o2 hbk
 ·rw[hM.2.2 t]at hs;exact(h.slot t s hs).mono hw (λ_ h=>h) hh
theorem Rel.freeze{X:Cx}{M M':Mem}{a:Act}{w:World}{γ:Nat->Gh}{S:Nat->Prop}(h:Rel X M a w γ S){id sz:Nat}{xs:List FV}(hM:q3z id M M')
  (he:hdOf M id=some (.vec sz xs)\/hdOf M id=some (.frz sz xs)) (he':hdOf M' id=some (.frz sz xs)) :
  ∃S',(∀b,S b->S' b)/\(∀b,S' b->S b\/b=(γ id).blk)/\Rel X M' a w γ S':=by
 have hh:HdLe (hdOf M) (hdOf M') γ γ:=λi e1 h1=>by
  by_cases hi:i=id
  ·subst hi;rcases he with he | he <;> rw[he]at h1 <;> cases h1 <;> exact⟨_,he',.inr ⟨rfl,rfl,λh=>(by simp at h),rfl⟩⟩
  ·exact⟨e1,by rw[hM.1 i hi];exact h1,.inr ⟨rfl,rfl,λh=>h,rfl⟩⟩
 have cases':∀i e1,hdOf M' i=some e1->(i=id/\e1=.frz sz xs)\/(i≠id/\hdOf M i=some e1):=λi e1 h1=>by
  by_cases hi:i=id
  ·subst hi;rw[he']at h1;exact .inl ⟨rfl,by simpa using h1.symm⟩
  ·exact .inr ⟨hi,by rw[<- hM.1 i hi];exact h1⟩
 have main:∀S':Nat->Prop,(∀b,S b->S' b)->(∀b,S' b->S b\/((γ id).nil=false/\hdOf M id=some (.vec sz xs)/\b=(γ id).blk))->ORep w S' γ M' id (.frz sz xs)->Rel X M' a w γ S':=by
  intro S' h1 h2 h3;refine { keep:={ h.keep with bound:=λb hb=>?_,smon:=λb hb=>h1 b (h.keep.smon b hb),q8d:=λb hb=>?_ },head:=λi e1 he1=>?_,own:=λi e1 he1 ow=>?_,inj:=λi e1 j e2 hi hj o1 o2 hbk=>?_,nt:=h.nt,q2o:=h.q2o,pin:=h.pin,slot:=λt s hs=>?_ }
  ·rcases h2 b hb with h4 | ⟨h4,h5,rfl⟩
   ·exact h.keep.bound b h4
   ·exact(h.own id _ h5 h4).1
  ·rcases h2 b hb with h4 | ⟨h4,h5,rfl⟩
   ·exact h.keep.q8d b h4
   ·exact .inr (h.own id _ h5 h4).2.2
  ·rcases cases' i e1 he1 with⟨rfl,rfl⟩ | ⟨hi,he1⟩
   ·exact h3
   ·exact(h.head i e1 he1).go (λ_ _=>rfl) h1 hh rfl (λj=>hM.2.1 i j hi) λ_=>rfl
  ·rcases cases' i e1 he1 with⟨rfl,rfl⟩ | ⟨hi,he1⟩
   ·exact absurd ow (by simp[Owned])
   ·have:=h.own i e1 he1 ow;refine⟨this.1,λhS=>?_,this.2.2⟩;rcases h2 _ hS with h4 | ⟨h4,h5,h6⟩
    ·exact this.2.1 h4
    ·exact hi (h.inj i e1 id _ he1 h5 ow h4 h6)
  ·rcases cases' i e1 hi with⟨rfl,rfl⟩ | ⟨hi',hi⟩
   ·exact absurd o1 (by simp[Owned])
   rcases cases' j e2 hj with⟨rfl,rfl⟩ | ⟨hj',hj⟩
   ·exact absurd o2 (by simp[Owned])
   ·exact h.inj i e1 j e2 hi hj o1 o2 hbk
  ·rw[hM.2.2 t]at hs;exact(h.slot t s hs).mono (λ_ _=>rfl) h1 hh
 rcases he with he | he
 ·have ho:=h.head id _ he;by_cases hn:(γ id).nil=true
  ·refine⟨S,λ_ h=>h,λ_ h=>.inl h,main S (λ_ h=>h) (λ_ h=>.inl h) ⟨ho.1,?_⟩⟩;rw[if_pos hn];have:=ho.2;rwa[if_pos hn]at this
  ·have hn':(γ id).nil=false:=by simpa using hn
   refine⟨λb=>S b\/b=(γ id).blk,λ_ h=>.inl h,λ_ h=>h,main _ (λ_ h=>.inl h) (λb hb=>hb.imp (λh=>h) λh=>⟨hn',he,h⟩) ⟨ho.1,?_⟩⟩;rw[if_neg hn];have h2:=ho.2;rw[if_neg hn]at h2;obtain⟨_,_,_,_,h4⟩:=h2;exact⟨.inr rfl,h4.mono (λ_ _=>rfl) (λ_ h=>.inl h) rfl⟩
 ·refine⟨S,λ_ h=>h,λ_ h=>.inl h,main S (λ_ h=>h) (λ_ h=>.inl h) ?_⟩;exact(h.head id _ he).go (λ_ _=>rfl) (λ_ h=>h) (HdLe.refl _ _) rfl (λ_=>rfl) (λ_=>rfl)
end
section
def zeroOk:CK->Value->Bool
 |.int k,.int k' n=>kindEq k k'&&n==0
 |.bool,.bool b=>!b
 |.str,.string s=>s.data.size==0
 |.lst _,.slice none 0 0=>true
 |.raw v,v'=>rawOk v v'
 |_,_=>false
def zerosOk:List CK->List Value->Bool
 |[],[]=>true
 |c::cs,v::vs=>zeroOk c v&&zerosOk cs vs
 |_,_=>false
def isAgg':Value->Bool
 |.agg _=>true
 |_=>false
def ck1:TypeDesc->List CK->Bool
 |.int k,[.int k']=>kindEq k k'
 |.bool,[.bool]=>true
 |.string,[.str]=>true
 |.slice _,[.lst _]=>true
 |.pointer _,[.raw (.pointer none)]=>true
 |.map _ _,[.raw (.map none)]=>true
 |.func _ _ _,[.raw .nilFunc]=>true
 |.interface _,[.raw .nilIface]=>true
 |_,_=>false
def descOk(d:TypeDesc)(i:TyI):Bool :=
 match d with
 |.struct fs=>i.agg&&(fs.toList.map λf=>(f.offset,f.type))==i.flds
 |.array _ _=>i.agg&&i.flds.isEmpty
 |.slice e=>!i.agg&&i.flds.isEmpty&&i.elem==e&&ck1 d i.ck
 |d=>!i.agg&&i.flds.isEmpty&&ck1 d i.ck
def chkTy(P:Program)(t:TypeId)(i:TyI):Bool :=
 match P.info? t,P.underlying t with
 |some inf,some d=>inf.size==i.size&&inf.bytes==i.bytes&&i.ck.length==i.size&&(match inf.zero with | some z=>zerosOk i.ck z.cells.toList&&(i.agg==isAgg' z) | none=>false)&&descOk d i
 |_,_=>false
structure TyOk(P:Program)(t:TypeId)(i:TyI)(inf:TypeInfo)(d:TypeDesc)(z:Value):Prop where
 info:P.info? t=some inf
 und:P.underlying t=some d
 size:inf.size=i.size
 bytes:inf.bytes=i.bytes
 len:i.ck.length=i.size
 zero:inf.zero=some z
 q28:zerosOk i.ck z.cells.toList=true
 zagg:i.agg=isAgg' z
 desc:descOk d i=true
theorem q8i{P:Program}{t:TypeId}{i:TyI}(h:chkTy P t i=true):∃inf d z,TyOk P t i inf d z:=by
 unfold chkTy at h;cases h1:P.info? t with
 |none=>simp[h1]at h
 |some inf =>
  cases h2:P.underlying t with
  |none=>simp[h1,h2]at h
  |some d =>
   simp only[h1,h2]at h;cases h3:inf.zero with
   |none=>simp[h3]at h
   |some z =>
    simp only[h3,Ai,Bv]at h;obtain⟨⟨⟨⟨a,b⟩,c⟩,e,f⟩,g⟩:=h;exact⟨inf,d,z,h1,h2,a,b,c,h3,e,f,g⟩
def basicT(P:Program)(t:TypeId)(c:CK):Bool :=
 match P.underlying t,c with
 |some (.int k),.int k'=>kindEq k k'
 |some .bool,.bool=>true
 |some .string,.str=>true
 |_,_=>false
def fldsOk(P:Program):List Field->Nat->List CK->Bool
 |[],_,[]=>true
 |f::fs,j,c::cs=>f.name != "_" && f.offset==j&&basicT P f.type c&&fldsOk P fs (j+1) cs
 |_,_,_=>false
def chkKey(P:Program)(kt:TypeId)(ki:TyI):Bool :=
 match P.underlying kt with
 |some (.struct fs)=>ki.agg&&!(P.stoodInHeld kt)&&fldsOk P fs.toList 0 ki.ck
 |some _=>!ki.agg&&(match ki.ck with | [c]=>basicT P kt c | _=>false)
 |none=>false
def chkMap(P:Program)(ty:Nat->Option TyI)(t:TypeId)(i:TyI):Bool :=
 match i.agg,i.ck with
 |false,[.raw (.map none)]=>(match P.underlying t with | some (.map k e)=>Nat.beq k i.key&&Nat.beq e i.elem | _=>false)&&(match ty i.key with | some ki=>chkKey P i.key ki | none=>true)
 |_,_=>true
structure q14(E:Env):Prop where
 ty:∀t i,E.ty t=some i->chkTy E.P t i=true
 mapk:∀t i,E.ty t=some i->chkMap E.P E.ty t i=true
 fc:∀f fn,E.fc f=some fn->E.P.funcs[vb f]?=some fn/\(fn.name == "runtime.NumGoroutine")=false
 mixed:E.P.follows .mixedOrders=true
theorem q72{a b:IntKind}:kindEq a b=true↔a=b:=by cases a <;> cases b <;> simp[kindEq]
theorem qa8:∀ {ck:List CK} {vs:List Value},zerosOk ck vs=true->vs.length=ck.length
 |[],[],_=>rfl
 |[],_::_,h=>by simp[zerosOk]at h
 |_::_,[],h=>by simp[zerosOk]at h
 |c::cs,v::vs,h=>by
  simp only[zerosOk,Ai]at h;simp[qa8 h.2]
theorem qdj{v v':Value}(h:rawOk v v'=true):v=v'/\v'.oneCell'=true:=by
 unfold rawOk at h;split at h <;> first | exact⟨rfl,rfl⟩ | (obtain rfl:=Aw h;exact⟨rfl,rfl⟩) | simp at h
theorem zero_rep{w:World}{S:Nat->Prop}{k:CK}{v:Value}(h:zeroOk k v=true):FRep w S k.zero v/\(∀ γ hd,SRep w S γ hd k.zeroS v)/\v.oneCell'=true:=by
 cases k with
 |int k =>
  cases v <;> simp[zeroOk,q72]at h;obtain⟨rfl,rfl⟩:=h;exact⟨.int _ _,λ_ _=>.fv (.int _ _),rfl⟩
 |bool =>
  cases v <;> simp[zeroOk]at h;subst h;exact⟨.bool _,λ_ _=>.fv (.bool _),rfl⟩
 |str =>
  cases v <;> simp[zeroOk]at h;rename_i s;have:s=⟨#[]⟩:=by cases s;simp_all;rfl
  subst this;exact⟨.str _,λ_ _=>.fv (.str _),rfl⟩
 |lst sz =>
  unfold zeroOk at h;split at h <;> simp_all;exact⟨FRep.q30.2 ⟨none,0,0,0,rfl,Ak _,λh=>absurd rfl h,λ_ h=>by simp at h,λi j x c h=>by simp at h⟩,λ_ _=>.nilS,rfl⟩
 |raw u =>
  have h':rawOk u v=true:=by simpa[zeroOk]using h
  obtain⟨rfl,h2⟩:=qdj h';exact⟨.raw _,λ_ _=>.fv (.raw _),h2⟩
theorem q95{w:World}{S:Nat->Prop}:∀ {ck:List CK} {vs:List Value},zerosOk ck vs=true->∀(j:Nat) (k:CK),ck[j]?=some k ->
  ∃v,vs[j]?=some v/\FRep w S k.zero v/\(∀ γ hd,SRep w S γ hd k.zeroS v)/\v.oneCell'=true
 |[],[],_,j,k,hk=>by simp at hk
 |[],_::_,h,_,_,_=>by simp[zerosOk]at h
 |_::_,[],h,_,_,_=>by simp[zerosOk]at h
 |c::cs,v::vs,h,j,k,hk=>by
  simp only[zerosOk,Ai]at h;cases j with
  |zero=>simp at hk;subst hk;exact⟨v,rfl,zero_rep h.1⟩
  |succ j=>simpa using q95 h.2 j k (by simpa using hk)
def Gets(t:RT)(M:Mem)(us:List (Key×Ent)):Prop:=∃lg,t.get M=some (us,lg)
section
variable {M:Mem} {us:List (Key×Ent)}
theorem q2s{u:List (Key×Ent)}(h:Gets (.ret u) M us):us=u:=by
 obtain⟨lg,h⟩:=h;simp[RT.get]at h;exact h.1.symm
theorem qg(h:Gets .fail M us):False:=by
 obtain⟨lg,h⟩:=h;simp[RT.get]at h
theorem q6i{k:Key}{f:Ent->RT}(h:Gets (.rd k f) M us):∃e,M.get k=some e/\Gets (f e) M us:=by
 obtain⟨lg,h⟩:=h;simp only[RT.get]at h;cases he:Mem.get k M with
 |none=>simp[he]at h
 |some e =>
  simp only[he]at h;cases hf:(f e).get M with
  |none=>simp[hf]at h
  |some r=>simp only[hf,AE,AH,Bw]at h;exact⟨e,rfl,r.2,by rw[hf,<- h.1]⟩
theorem q7h{id:Nat}{t:RT}(h:Gets (.fresh id t) M us):hdOf M id=none/\Gets t M us:=by
 obtain⟨lg,h⟩:=h;simp only[RT.get]at h;cases he:Mem.get (.head id) M with
 |some e=>simp[he]at h
 |none =>
  simp only[he]at h;cases hf:t.get M with
  |none=>simp[hf]at h
  |some r=>simp only[hf,AE,AH,Bw]at h;exact⟨he,r.2,by rw[hf,<- h.1]⟩
theorem qdk{x:Option Int}{f:Int->RT}(h:Gets (.int x f) M us):∃n,x=some n/\Gets (f n) M us:=by
 obtain⟨lg,h⟩:=h;simp only[RT.get,CD]at h;obtain⟨n,h1,h2⟩:=h;exact⟨n,h1,lg,h2⟩
theorem q94{x:Option Nat}{f:Nat->RT}(h:Gets (.nat x f) M us):∃n,x=some n/\Gets (f n) M us:=by
 obtain⟨lg,h⟩:=h;simp only[RT.get,CD]at h;obtain⟨n,h1,h2⟩:=h;exact⟨n,h1,lg,h2⟩
theorem qjk{x:Option Bool}{f:Bool->RT}(h:Gets (.boo x f) M us):∃n,x=some n/\Gets (f n) M us:=by
 obtain⟨lg,h⟩:=h;simp only[RT.get,CD]at h;obtain⟨n,h1,h2⟩:=h;exact⟨n,h1,lg,h2⟩
theorem qeh{x:Option ByteArray}{f:ByteArray->RT}(h:Gets (.str x f) M us):∃n,x=some n/\Gets (f n) M us:=by
 obtain⟨lg,h⟩:=h;simp only[RT.get,CD]at h;obtain⟨n,h1,h2⟩:=h;exact⟨n,h1,lg,h2⟩
theorem qag{x:Option (List FV)}{f:List FV->RT}(h:Gets (.lst x f) M us):∃n,x=some n/\Gets (f n) M us:=by
 obtain⟨lg,h⟩:=h;simp only[RT.get,CD]at h;obtain⟨n,h1,h2⟩:=h;exact⟨n,h1,lg,h2⟩
theorem q6m{b:Bool}{t e:RT}(h:Gets (.cnd b t e) M us):(b=true/\Gets t M us)\/(b=false/\Gets e M us):=by
 obtain⟨lg,h⟩:=h;simp only[RT.get]at h;cases b
 ·exact .inr ⟨rfl,lg,h⟩
 ·exact .inl ⟨rfl,lg,h⟩
theorem q15{b:Bool}{t:RT}(h:Gets (bif b then t else .fail) M us):b=true/\Gets t M us:=by
 cases b
 ·exact(qg h).elim
 ·exact⟨rfl,h⟩
theorem q3l{E:Env}{t:TypeId}{f:TyI->RT}(hE:q14 E)(h:Gets (ty E t f) M us):∃i inf d z,TyOk E.P t i inf d z/\Gets (f i) M us:=by
 unfold ty at h;cases hi:E.ty t with
 |none=>rw[hi]at h;exact(qg h).elim
 |some i =>
  rw[hi]at h;obtain⟨inf,d,z,k⟩:=q8i (hE.ty t i hi);exact⟨i,inf,d,z,k,h⟩
theorem q2u{id:Nat}{f:Ent->RT}(h:Gets (q2y id f) M us):∃e,hdOf M id=some e/\Gets (f e) M us:=q6i h
end
section
variable {X:Cx} {M:Mem} {a:Act} {w:World} {γ:Nat->Gh} {S:Nat->Prop} {us:List (Key×Ent)}
theorem qqc{hd:Nat->Option Ent}(v:Value):SRep w S γ hd (constSV v) v:=by
 unfold constSV;split
 ·exact .fv (.int _ _)
 ·exact .fv (.bool _)
 ·exact .fv (.str _)
 ·exact .nilS
 ·exact .fv (.raw _)
theorem q1j(h:Rel X M a w γ S){x:Operand}{f:SV->RT}(hg:Gets (opd x f) M us):∃s,SRep w S γ (hdOf M) s (a.eval x)/\Gets (f s) M us:=by
 unfold opd at hg;split at hg
 ·rename_i t;obtain⟨e,he,hg⟩:=q6i hg;split at hg
  ·exact⟨_,h.slot t _ he,hg⟩
  ·exact(qg hg).elim
 ·exact⟨_,qqc _,hg⟩
 ·exact(qg hg).elim
 ·exact⟨_,.fv (.raw _),hg⟩
theorem qbh(h:Rel X M a w γ S):∀ {xs:List Operand} {f:List SV->RT},Gets (opds xs f) M us ->
  ∃ss,ss.length=xs.length/\(∀(j:Nat) (x:Operand),xs[j]?=some x->∃s,ss[j]?=some s/\SRep w S γ (hdOf M) s (a.eval x))/\Gets (f ss) M us
 |[],f,hg=>⟨[],rfl,λj x hx=>by simp at hx,hg⟩
 |x::xs,f,hg=>by
  unfold opds at hg;obtain⟨s,hs,hg⟩:=q1j h hg;obtain⟨ss,h1,h2,hg⟩:=qbh h hg;refine⟨s::ss,by simp[h1],λj y hy=>?_,hg⟩;cases j with
  |zero=>simp at hy;subst hy;exact⟨s,rfl,hs⟩
  |succ j=>simpa using h2 j y (by simpa using hy)
theorem q1c(h:Rel X M a w γ S){o:Oper}(hd:∀d,o.dst=some d->X.Dst d){s:SV}{v:Value}(hs:SRep w S γ (hdOf M) s v)(hg:Gets (out o.dst s []) M us) :
  Rel X (us++M) (a.put o.dst v) w γ S:=by
 unfold out at hg;cases hdst:o.dst with
 |none=>rw[hdst]at hg;rw[q2s hg];exact h
 |some d=>rw[hdst]at hg;rw[q2s hg];exact h.put (hd d hdst) hs
def Goal(P:Program)(X:Cx)(M:Mem)(o:Oper)(a:Act)(w:World)(us:List (Key×Ent)):Prop :=
 ∀(next:Act->World->Prop) (Q:Exit->Act->World->Prop),(∀v w' γ' S',Rel X (us++M) (a.put o.dst v) w' γ' S'->next (a.put o.dst v) w')->o.wp P a w next Q
theorem Goal.value{P:Program}{o:Oper}{v:Value}{w':World}{γ':Nat->Gh}{S':Nat->Prop}(hr:(execOp a.eval o).run P w=.ok (.value v) w')(h:Rel X (us++M) (a.put o.dst v) w' γ' S') :
  Goal P X M o a w us:=λnext Q hn=>by
 unfold Oper.wp;rw[hr];exact hn v w' γ' S' h
theorem Goal.q1i{P:Program}{o:Oper}{v:Value}(hr:(execOp a.eval o).run P w=.ok (.value v) w)(h:Rel X (us++M) (a.put o.dst v) w γ S):Goal P X M o a w us:=.value hr h
theorem Goal.skip{P:Program}{o:Oper}{w':World}{γ':Nat->Gh}{S':Nat->Prop}(hr:(execOp a.eval o).run P w=.ok .skip w')(h:Rel X (us++M) (a.put o.dst undef) w' γ' S') :
  Goal P X M o a w us:=λnext Q hn=>by
 unfold Oper.wp;rw[hr];exact hn undef w' γ' S' h
end
end
section
section
variable {P:Program} {t:TypeId} {i:TyI} {inf:TypeInfo} {d:TypeDesc} {z:Value}
theorem TyOk.runU(h:TyOk P t i inf d z)(w:World):(underlying t).run P w=.ok d w:=run_underlying h.und w
theorem TyOk.runI(h:TyOk P t i inf d z)(w:World):(typeInfo t).run P w=.ok inf w:=by simp[typeInfo,h.info]
theorem TyOk.runS(h:TyOk P t i inf d z)(w:World):(Go.sizeOf t).run P w=.ok i.size w:=by simp[Go.sizeOf,h.runI,h.size]
theorem TyOk.runZ(h:TyOk P t i inf d z)(w:World):(zeroValue t).run P w=.ok z w:=by simp[zeroValue,h.runI,h.zero]
theorem TyOk.runA(h:TyOk P t i inf d z)(w:World):(isAgg t).run P w=.ok i.agg w:=by
 have hd:=h.desc;cases d <;> simp_all[isAgg,h.runU,descOk]
theorem TyOk.flds(h:TyOk P t i inf d z){f off ft:Nat}(hf:i.flds[f]?=some (off,ft)):∃fs fd,d=.struct fs/\fs[f]?=some fd/\fd.offset=off/\fd.type=ft:=by
 have hd:=h.desc;cases d <;> simp_all[descOk]
 case struct fs =>
  obtain⟨_,h2⟩:=hd;rw[<- h2]at hf;simp only[Br,BY,Bw,BA]at hf;obtain⟨fd,h3,h4,h5⟩:=hf;exact⟨fd,h3,h4,h5⟩
theorem TyOk.scalar(h:TyOk P t i inf d z)(ha:i.agg=false):ck1 d i.ck=true:=by
 have hd:=h.desc;cases d <;> simp_all[descOk]
theorem TyOk.isSlice(h:TyOk P t i inf d z){sz:Nat}(hk:i.ck=[.lst sz])(ha:i.agg=false):d=.slice i.elem:=by
 have hd:=h.desc;cases d <;> simp_all[descOk,ck1]
end
section
variable {E:Env} {call:FuncId->List FV->Res} {X:Cx} {M:Mem} {a:Act} {w:World} {γ:Nat->Gh} {S:Nat->Prop} {us:List (Key×Ent)} {o:Oper}
theorem qkb{x:Operand}(h:Rel X M a w γ S)(hd:∀d,o.dst=some d->X.Dst d)(hop:o.op=.move x\/o.op=.assign x)(hg:Gets (opd x λv=>out o.dst v []) M us):Goal E.P X M o a w us:=by
 obtain⟨s,hs,hg⟩:=q1j h hg;have hr:(execOp a.eval o).run E.P w=.ok (.value (a.eval x)) w:=by
  rcases hop with hop | hop <;> simp[execOp,hop]
 exact .q1i hr (q1c h hd hs hg)
theorem SRep.q51{w:World}{S:Nat->Prop}{γ:Nat->Gh}{hd:Nat->Option Ent}{b:Bool}{v:Value}(h:SRep w S γ hd (.fv (.bool b)) v):v=.bool b:=by
 cases h with
 |fv h=>cases h;rfl
 |tomb hs _=>simp[SV.refId]at hs
theorem SRep.q22{w:World}{S:Nat->Prop}{γ:Nat->Gh}{hd:Nat->Option Ent}{k:IntKind}{n:Int}{v:Value}(h:SRep w S γ hd (.fv (.int k n)) v):v=.int k n:=by
 cases h with
 |fv h=>cases h;rfl
 |tomb hs _=>simp[SV.refId]at hs
theorem SRep.q5s{w:World}{S:Nat->Prop}{γ:Nat->Gh}{hd:Nat->Option Ent}{s:ByteArray}{v:Value}(h:SRep w S γ hd (.fv (.str s)) v):v=.string s:=by
 cases h with
 |fv h=>cases h;rfl
 |tomb hs _=>simp[SV.refId]at hs
theorem SRep.qam{w:World}{S:Nat->Prop}{γ:Nat->Gh}{hd:Nat->Option Ent}{u v:Value}(h:SRep w S γ hd (.fv (.raw u)) v):v=u:=by
 cases h with
 |fv h=>cases h;rfl
 |tomb hs _=>simp[SV.refId]at hs
theorem SRep.qce{w:World}{S:Nat->Prop}{γ:Nat->Gh}{hd:Nat->Option Ent}{sz:Nat}{xs:List FV}{v:Value}(h:SRep w S γ hd (.fv (.list sz xs)) v):FRep w S (.list sz xs) v:=by
 cases h with
 |fv h=>exact h
 |tomb hs _=>simp[SV.refId]at hs
theorem SRep.q8o{w:World}{S:Nat->Prop}{γ:Nat->Gh}{hd:Nat->Option Ent}{v:Value}(h:SRep w S γ hd .nilS v):v=.slice none 0 0:=by
 cases h with
 |nilS=>rfl
 |tomb hs _=>simp[SV.refId]at hs
theorem SRep.qbi{w:World}{S:Nat->Prop}{γ:Nat->Gh}{hd:Nat->Option Ent}{id off n:Nat}{v:Value}(h:SRep w S γ hd (.ptr id off) v)(he:hd id=some (.obj n)):v=.pointer (some ⟨(γ id).blk,off,none⟩):=by
 cases h with
 |ptr _ _=>rfl
 |tomb hs h=>simp[SV.refId]at hs;subst hs;rw[he]at h;simp at h
theorem SRep.qbj{w:World}{S:Nat->Prop}{γ:Nat->Gh}{hd:Nat->Option Ent}{id sz i c s len:Nat}{e:Ent}{v:Value}(h:SRep w S γ hd (.ept id sz i c) v)(he:hd id=some e)(hr:e.row=some (s,len)) :
  v=.pointer (some ⟨(γ id).blk,(γ id).off+(i*sz+c),none⟩)/\sz=s/\i<len/\(γ id).nil=false:=by
 cases h with
 |ept h1 h2 h3 h4=>rw[he]at h1;cases h1;rw[hr]at h2;cases h2;exact⟨rfl,rfl,h4,h3⟩
 |tomb hs h=>simp[SV.refId]at hs;subst hs;rw[he]at h;cases h;simp[Ent.row]at hr
theorem SRep.qdm{w:World}{S:Nat->Prop}{γ:Nat->Gh}{hd:Nat->Option Ent}{sz i c:Nat}{xs:List FV}{v:Value}(h:SRep w S γ hd (.fp sz xs i c) v) :
  ∃b o,v=.pointer (some ⟨b,o+(i*sz+c),none⟩)/\S b/\Row w S b o sz xs/\i<xs.length:=by
 cases h with
 |fp h1 h2 h3=>exact⟨_,_,rfl,h1,h2,h3⟩
 |tomb hs _=>simp[SV.refId]at hs
theorem SRep.qaf{w:World}{S:Nat->Prop}{γ:Nat->Gh}{hd:Nat->Option Ent}{cs:List SV}{v:Value}(h:SRep w S γ hd (.agg cs) v):∃vs,v=.agg vs/\vs.size=cs.length/\∀(j:Nat) (s:SV),cs[j]?=some s->SRep w S γ hd s (vs.getD j undef):=by
 cases h with
 |agg h1 h2=>exact⟨_,rfl,h1,h2⟩
 |tomb hs _=>simp[SV.refId]at hs
theorem SRep.tup_inv{w:World}{S:Nat->Prop}{γ:Nat->Gh}{hd:Nat->Option Ent}{cs:List SV}{v:Value}(h:SRep w S γ hd (.tup cs) v):∃vs,v=.tuple vs/\vs.size=cs.length/\∀(j:Nat) (s:SV),cs[j]?=some s->SRep w S γ hd s (vs.getD j undef):=by
 cases h with
 |tup h1 h2=>exact⟨_,rfl,h1,h2⟩
 |tomb hs _=>simp[SV.refId]at hs
theorem SRep.clo_inv{w:World}{S:Nat->Prop}{γ:Nat->Gh}{hd:Nat->Option Ent}{fn:Fn}{fs cs:List SV}{v:Value}(h:SRep w S γ hd (.clo fn fs cs) v) :
  ∃f c,v=.func fn f c/\f.size=fs.length/\c.size=cs.length/\(∀(j:Nat) (s:SV),fs[j]?=some s->SRep w S γ hd s (f.getD j undef))/\∀(j:Nat) (s:SV),cs[j]?=some s->SRep w S γ hd s (c.getD j undef):=by
 cases h with
 |clo h1 h2 h3 h4=>exact⟨_,_,rfl,h1,h2,h3,h4⟩
 |tomb hs _=>simp[SV.refId]at hs
theorem SRep.q5u{w:World}{S:Nat->Prop}{γ:Nat->Gh}{hd:Nat->Option Ent}{id s len:Nat}{view:Option (Nat×Nat)}{e:Ent}{v:Value}(h:SRep w S γ hd (.sl id view) v)(he:hd id=some e)(hr:e.row=some (s,len)) :
  (view=none/\v=.slice (γ id).base len (γ id).cap)\/∃o n a c,view=some (o,n)/\v=.slice a n c/\o+n<=len/\n<=c/\(n≠0->(γ id).nil=false/\a=some ⟨(γ id).blk,(γ id).off+o*s,none⟩)/\(o=0->a=(γ id).base/\c=(γ id).cap):=by
 cases h with
 |sl h1 h2=>rw[he]at h1;cases h1;rw[hr]at h2;cases h2;exact .inl ⟨rfl,rfl⟩
 |view h1 h2 h3 h4 h5 h6=>rw[he]at h1;cases h1;rw[hr]at h2;cases h2;exact .inr ⟨_,_,_,_,rfl,rfl,h3,h4,h5,h6⟩
 |tomb hs h=>simp[SV.refId]at hs;subst hs;rw[he]at h;cases h;simp[Ent.row]at hr
theorem sim_pick{c x y:Operand}(h:Rel X M a w γ S)(hd:∀d,o.dst=some d->X.Dst d)(hop:o.op=.pick c x y)(hg:Gets (rtOp E call o) M us):Goal E.P X M o a w us:=by
 simp only[rtOp,hop]at hg;obtain⟨c',hc,hg⟩:=q1j h hg;obtain⟨x',hx,hg⟩:=q1j h hg;obtain⟨y',hy,hg⟩:=q1j h hg;cases c' with
 |fv q =>
  cases q with
  |bool b =>
   have hcv:=hc.q51;have hr:(execOp a.eval o).run E.P w=.ok (.value (if b then a.eval x else a.eval y)) w:=by
    simp[execOp,hop,hcv,Go.asBool]
   refine .q1i (γ:=γ) (S:=S) hr ?_;dsimp only at hg;split at hg
   ·rename_i b1 b2 heq;have e1:=hx.q51;have e2:=hy.q51;refine q1c h hd (s:=.fv (.bool (cond b b1 b2))) ?_ hg;cases b <;> simp[e1,e2] <;> exact .fv (.bool _)
   ·rcases q6m hg with⟨rfl,hg⟩ | ⟨rfl,hg⟩
    ·exact q1c h hd hx hg
    ·exact q1c h hd hy hg
  |_=>exact(qg hg).elim
 |_=>exact(qg hg).elim
theorem qfw{f:SV->RT}{s:SV}{v:Value}(hs:SRep w S γ (hdOf M) s v)(hg:Gets (live s (f s)) M us) :
  (∃b o,v=.pointer (some ⟨b,o,none⟩))/\Gets (f s) M us:=by
 unfold live at hg;split at hg
 ·obtain⟨e,he,hg⟩:=q2u hg;split at hg
  ·exact⟨⟨_,_,hs.qbi he⟩,hg⟩
  ·exact(qg hg).elim
 ·obtain⟨e,he,hg⟩:=q2u hg;split at hg
  ·exact⟨⟨_,_,(hs.qbj he rfl).1⟩,hg⟩
  ·exact⟨⟨_,_,(hs.qbj he rfl).1⟩,hg⟩
  ·exact(qg hg).elim
 ·obtain⟨b,o,h1,_⟩:=hs.qdm;exact⟨⟨_,_,h1⟩,hg⟩
 ·exact(qg hg).elim
theorem qr2{x:Operand}(h:Rel X M a w γ S)(hd:∀d,o.dst=some d->X.Dst d)(hop:o.op=.nilCheck x)(hg:Gets (rtOp E call o) M us):Goal E.P X M o a w us:=by
 simp only[rtOp,hop]at hg;obtain⟨s,hs,hg⟩:=q1j h hg;obtain⟨⟨b,off,hv⟩,hg⟩:=qfw (f:=λs=>out o.dst s []) hs hg;refine .q1i (v:=a.eval x) ?_ (q1c h hd hs hg);simp[execOp,hop,hv]
theorem binI_ok{op:BinOp}{k:IntKind}{m n:Int}{f:SV->RT}(hg:Gets (binI op k m n f) M us){xt:TypeId}(hs:op≠.shl/\op≠.shr) :
  ∃s v,Gets (f s) M us/\SRep w S γ (hdOf M) s v/\(Go.binOp op xt (.int k m) (.int k n)).run E.P w=.ok v w:=by
 have I:∀q,SRep w S γ (hdOf M) (.fv (.int k q)) (.int k q):=λq=>.fv (.int k q);have B:∀q,SRep w S γ (hdOf M) (.fv (.bool q)) (.bool q):=λq=>.fv (.bool q);have div:∀op',(op'=.quo\/op'=.rem)->¬ n=0->(Go.binOp op' xt (.int k m) (.int k n)).run E.P w=.ok (.int k (match op' with | .quo=>k.wrap (m.tdiv n) | _=>m.tmod n)) w:=by
  intro op' ho hn;rcases ho with rfl | rfl <;> simp[Go.binOp,Op.intDiv,hn]
 cases op with
 |add=>exact⟨_,_,hg,I _,by simp[Go.binOp,Op.intArith]⟩
 |sub=>exact⟨_,_,hg,I _,by simp[Go.binOp,Op.intArith]⟩
 |mul=>exact⟨_,_,hg,I _,by simp[Go.binOp,Op.intArith]⟩
 |quo =>
  rcases q6m hg with⟨_,hg⟩ | ⟨hb,hg⟩
  ·exact(qg hg).elim
  ·exact⟨_,_,hg,I _,div .quo (.inl rfl) (by simpa using hb)⟩
 |rem =>
  rcases q6m hg with⟨_,hg⟩ | ⟨hb,hg⟩
  ·exact(qg hg).elim
  ·exact⟨_,_,hg,I _,div .rem (.inr rfl) (by simpa using hb)⟩
 |and=>exact⟨_,_,hg,I _,by simp only[Go.binOp,ne_eq,CV,BM];rfl⟩
 |or=>exact⟨_,_,hg,I _,by simp only[Go.binOp,ne_eq,CV,BM];rfl⟩
 |xor=>exact⟨_,_,hg,I _,by simp only[Go.binOp,ne_eq,CV,BM];rfl⟩
 |andNot=>exact⟨_,_,hg,I _,by simp only[Go.binOp,ne_eq,CV,BM];rfl⟩
 |eql=>exact⟨_,_,hg,B _,by simp[Go.binOp,Op.intCmp]⟩
 |neq=>exact⟨_,_,hg,B _,by simp[Go.binOp,Op.intCmp]⟩
 |lss=>exact⟨_,_,hg,B _,by simp[Go.binOp,Op.intCmp]⟩
 |leq=>exact⟨_,_,hg,B _,by simp[Go.binOp,Op.intCmp]⟩
 |gtr=>exact⟨_,_,hg,B _,by simp[Go.binOp,Op.intCmp]⟩
 |geq=>exact⟨_,_,hg,B _,by simp[Go.binOp,Op.intCmp]⟩
 |shl=>exact absurd rfl hs.1
 |shr=>exact absurd rfl hs.2
theorem binS_ok{op:BinOp}{m n:ByteArray}{f:SV->RT}(hg:Gets (binS op m n f) M us){xt:TypeId} :
  ∃s v,Gets (f s) M us/\SRep w S γ (hdOf M) s v/\(Go.binOp op xt (.string m) (.string n)).run E.P w=.ok v w:=by
 have B:∀q,SRep w S γ (hdOf M) (.fv (.bool q)) (.bool q):=λq=>.fv (.bool q);cases op with
 |add =>
  rcases q6m hg with⟨_,hg⟩ | ⟨hb,hg⟩
  ·exact(qg hg).elim
  ·have hb':¬ ((m.size+n.size:Nat):Int)>IntKind.i64.max:=by simpa using hb
   exact⟨_,_,hg,.fv (.str _),by simp only[Go.binOp,Op.stringOp];rw[if_neg hb'];rfl⟩
 |eql=>exact⟨_,_,hg,B _,by simp[Go.binOp,Op.stringOp]⟩
 |neq=>exact⟨_,_,hg,B _,by simp[Go.binOp,Op.stringOp]⟩
 |lss=>exact⟨_,_,hg,B _,by simp[Go.binOp,Op.stringOp]⟩
 |leq=>exact⟨_,_,hg,B _,by simp[Go.binOp,Op.stringOp]⟩
 |gtr=>exact⟨_,_,hg,B _,by simp[Go.binOp,Op.stringOp]⟩
 |geq=>exact⟨_,_,hg,B _,by simp[Go.binOp,Op.stringOp]⟩
 |_=>exact(qg hg).elim
theorem qr4{P:Program}{t:TypeId}(h:P.underlying t=some .bool)(a b:Bool)(w:World):(Op.equal t (.bool a) (.bool b)).run P w=.ok (a==b) w:=by
 have:∀d,(Op.equalIn (d+1) t (.bool a) (.bool b)).run P w=.ok (a==b) w:=λd=>by
  simp only[Op.equalIn,Sem.run_bind,run_underlying h,Result.andThen_ok,Sem.run_pure]
 exact this 9999
theorem qkc{P:Program}{t:TypeId}{el:TypeId}(h:P.underlying t=some (.pointer el))(a:Option Addr)(w:World):(Op.equal t (.pointer a) (.pointer none)).run P w=.ok a.isNone w:=by
 have:∀d,(Op.equalIn (d+1) t (.pointer a) (.pointer none)).run P w=.ok a.isNone w:=λd=>by
  cases a <;> simp only[Op.equalIn,Sem.run_bind,run_underlying h,Result.andThen_ok,Sem.run_pure,Option.isNone]
 exact this 9999
theorem sim_binOp{op:BinOp}{xt yt:TypeId}{x y:Operand}(hE:q14 E)(h:Rel X M a w γ S)(hd:∀d,o.dst=some d->X.Dst d)(hop:o.op=.binOp op xt x y yt)(hg0:Gets (rtOp E call o) M us):Goal E.P X M o a w us:=by
 simp only[rtOp,hop]at hg0;obtain⟨s,hs,hg1⟩:=q1j h hg0;obtain⟨t,ht,hg⟩:=q1j h hg1;clear hg0 hg1;have fin:∀s v,Gets (out o.dst s []) M us->SRep w S γ (hdOf M) s v->(∀p q:Value,a.eval x=p->a.eval y=q->(eqGuard op xt x y p q).run E.P w=.ok () w) ->
   (Go.binOp op xt (a.eval x) (a.eval y)).run E.P w=.ok v w->Goal E.P X M o a w us:=by
  intro s v hg hs hq hr;refine .q1i (v:=v) ?_ (q1c h hd hs hg);simp only[execOp,hop,Sem.run_bind,hq _ _ rfl rfl,Result.andThen_ok,hr,Sem.run_pure]
 have guardOk:∀p q:Value,(match p with | .int _ _ | .string _ | .bool _=>true | _=>false)=true->(eqGuard op xt x y p q).run E.P w=.ok () w:=by
  intro p q hp;cases p <;> simp at hp <;> cases op <;> simp[eqGuard]
 unfold binOp at hg;split at hg
 ·rename_i k m k' n;have e1:=hs.q22;have e2:=ht.q22;split at hg
  ·rcases q6m hg with⟨_,hg⟩ | ⟨hb,hg⟩
   ·exact(qg hg).elim
   ·have hb':¬ n<0:=by simpa using hb
    exact fin _ _ hg (.fv (.int _ _)) (λp q hp hq=>guardOk p q (by rw[<- hp,e1])) (by rw[e1,e2];simp only[Go.binOp,Op.shift];rw[if_neg hb'];simp[shI])
  ·rcases q6m hg with⟨_,hg⟩ | ⟨hb,hg⟩
   ·exact(qg hg).elim
   ·have hb':¬ n<0:=by simpa using hb
    exact fin _ _ hg (.fv (.int _ _)) (λp q hp hq=>guardOk p q (by rw[<- hp,e1])) (by rw[e1,e2];simp only[Go.binOp,Op.shift];rw[if_neg hb'];simp[shI])
  ·rename_i h1 h2;obtain⟨hk,hg2⟩:=q15 hg;rw[q72]at hk;subst hk;obtain⟨s',v,hg,hr,hrun⟩:=binI_ok (E:=E) (w:=w) (S:=S) (γ:=γ) (xt:=xt) hg2 ⟨λh=>h1 h,λh=>h2 h⟩;exact fin _ _ hg hr (λp q hp hq=>guardOk p q (by rw[<- hp,e1])) (by rw[e1,e2];exact hrun)
 ·have e1:=hs.q5s;have e2:=ht.q5s;obtain⟨s',v,hg,hr,hrun⟩:=binS_ok (E:=E) (w:=w) (S:=S) (γ:=γ) (xt:=xt) hg;exact fin _ _ hg hr (λp q hp hq=>guardOk p q (by rw[<- hp,e1])) (by rw[e1,e2];exact hrun)
 ·rename_i hni hns;have eqDone:∀(neg:Bool),op=(if neg then .neq else .eql)->(∀i,E.ty xt=some i->Gets (eqOp neg i s t λv=>out o.dst v []) M us->Goal E.P X M o a w us):=by
   clear hg;intro neg hopn i hi hg;obtain⟨inf,d,z,hT⟩:=q8i (hE.ty xt i hi);unfold eqOp at hg;split at hg
   ·rename_i b1 b2 ha hck;have hc1:=hT.scalar ha;rw[hck]at hc1;have hdd:d=.bool:=by cases d <;> simp[ck1]at hc1;rfl
    subst hdd;have e1:=hs.q51;have e2:=ht.q51;refine fin _ (.bool (cond neg (!(b1==b2)) (b1==b2))) hg (.fv (.bool _)) (λp q hp hq=>guardOk p q (by rw[<- hp,e1])) ?_;rw[e1,e2,hopn];cases neg <;> simp[Go.binOp,qr4 hT.und]
   ·rename_i id off ha hck;have hc1:=hT.scalar ha;rw[hck]at hc1;obtain⟨el,hdd⟩:∃el,d=.pointer el:=by cases d <;> simp[ck1]at hc1;exact⟨_,rfl⟩
    subst hdd;obtain⟨⟨b,o',hv⟩,hg⟩:=qfw (f:=λ_=>out o.dst (.fv (.bool neg)) []) hs hg;have e2:=ht.qam;refine fin _ (.bool neg) hg (.fv (.bool _)) (λp q hp hq=>?_) ?_
    ·subst hp hq;rw[hv,e2,hopn];cases neg <;> simp[eqGuard]
    ·rw[hv,e2,hopn];cases neg <;> simp[Go.binOp,qkc hT.und]
   ·rename_i ha hck;have hc1:=hT.scalar ha;rw[hck]at hc1;obtain⟨el,hdd⟩:∃el,d=.pointer el:=by cases d <;> simp[ck1]at hc1;exact⟨_,rfl⟩
    subst hdd;have e1:=hs.qam;have e2:=ht.qam;refine fin _ (.bool (!neg)) hg (.fv (.bool _)) (λp q hp hq=>?_) ?_
    ·subst hp hq;rw[e1,e2,hopn];cases neg <;> simp[eqGuard]
    ·rw[e1,e2,hopn];cases neg <;> simp[Go.binOp,qkc hT.und]
   ·exact(qg hg).elim
  split at hg
  ·rename_i i hi;exact eqDone false rfl i hi hg
  ·rename_i i hi;exact eqDone true rfl i hi hg
  ·exact(qg hg).elim
end
end
section
theorem q53(b o n:Nat):(⟨b,o,none⟩:Addr).add n=⟨b,o+n,none⟩:=by
 unfold Addr.add;split <;> simp_all
section
variable {E:Env} {call:FuncId->List FV->Res} {X:Cx} {M:Mem} {a:Act} {w:World} {γ:Nat->Gh} {S:Nat->Prop} {us:List (Key×Ent)} {o:Oper}
theorem q54{t:TypeId}{f:TyI->RT}(hE:q14 E)(h:Gets (sliceTy E t f) M us):∃el i inf d z,E.P.underlying t=some (.slice el)/\TyOk E.P el i inf d z/\Gets (f i) M us:=by
 unfold sliceTy at h;obtain⟨ti,inf,d,z,hT,h⟩:=q3l hE h;split at h
 ·rename_i sz ha hck;obtain⟨i,inf',d',z',hT',h⟩:=q3l hE h;have:=hT.isSlice hck ha;exact⟨ti.elem,i,inf',d',z',by rw[hT.und,this],hT',h⟩
 ·exact(qg h).elim
theorem qf3{t:TypeId}{f:RT}(hE:q14 E)(h:Gets (isStr E t f) M us):E.P.underlying t=some .string/\Gets f M us:=by
 unfold isStr at h;obtain⟨ti,inf,d,z,hT,h⟩:=q3l hE h;split at h
 ·rename_i ha hck;have hc:=hT.scalar ha;rw[hck]at hc;have:d=.string:=by cases d <;> simp[ck1]at hc;rfl
  exact⟨by rw[hT.und,this],h⟩
 ·exact(qg h).elim
theorem sim_unOp{op:UnOp}{xt:TypeId}{x:Operand}(h:Rel X M a w γ S)(hd:∀d,o.dst=some d->X.Dst d)(hop:o.op=.unOp op xt x)(hg0:Gets (rtOp E call o) M us):Goal E.P X M o a w us:=by
 simp only[rtOp,hop]at hg0;obtain⟨s,hs,hg⟩:=q1j h hg0;clear hg0;unfold unOp at hg;split at hg
 ·have e:=hs.q22;refine .q1i (v:=.int _ _) ?_ (q1c h hd (.fv (.int _ _)) hg);simp[execOp,hop,e,Op.unary,Op.intArith]
 ·have e:=hs.q51;refine .q1i (v:=.bool _) ?_ (q1c h hd (.fv (.bool _)) hg);simp[execOp,hop,e,Op.unary]
 ·have e:=hs.q22;refine .q1i (v:=.int _ _) ?_ (q1c h hd (.fv (.int _ _)) hg);simp only[execOp,hop,e,Op.unary];rfl
 ·exact(qg hg).elim
theorem getD_map{xs:List Operand}{ss:List SV}{f:Operand->Value}{R:SV->Value->Prop}(hl:ss.length=xs.length)(h:∀(j:Nat) (x:Operand),xs[j]?=some x->∃s,ss[j]?=some s/\R s (f x))
  (j:Nat) (s:SV) (hs:ss[j]?=some s):R s ((xs.map f).toArray.getD j undef):=by
 have hj:j<xs.length:=by
  have:=(Am.1 hs).1;omega
 obtain⟨s',h1,h2⟩:=h j xs[j] (Ag hj);rw[hs]at h1;cases h1;simpa[Az,Ag hj]using h2
theorem qqd{fn:Fn}{first caps:Array Operand}(h:Rel X M a w γ S)(hd:∀d,o.dst=some d->X.Dst d)(hop:o.op=.makeFunc fn first caps)(hg0:Gets (rtOp E call o) M us):Goal E.P X M o a w us:=by
 simp only[rtOp,hop]at hg0;obtain⟨fs,l1,h1,hg1⟩:=qbh h hg0;obtain⟨cs,l2,h2,hg⟩:=qbh h hg1;refine .q1i (v:=.func fn (first.map a.eval) (caps.map a.eval)) (by simp[execOp,hop,Instr.makeFunc]) (q1c h hd (.clo (by simp[l1]) (by simp[l2]) (λj s hs=>?_) λj s hs=>?_) hg)
 ·simpa using getD_map (f:=a.eval) l1 h1 j s hs
 ·simpa using getD_map (f:=a.eval) l2 h2 j s hs
theorem qqe{st:TypeId}{x:Operand}{f:Nat}(hE:q14 E)(h:Rel X M a w γ S)(hd:∀d,o.dst=some d->X.Dst d)(hop:o.op=.fieldAddr st x f)(hg0:Gets (rtOp E call o) M us):Goal E.P X M o a w us:=by
 simp only[rtOp,hop]at hg0;obtain⟨i,inf,d,z,hT,hg1⟩:=q3l hE hg0;obtain⟨s,hs,hg⟩:=q1j h hg1;clear hg0 hg1;split at hg
 ·rename_i off ft hf;obtain⟨fs,fd,rfl,hfd,ho,hft⟩:=hT.flds hf;obtain⟨fi,finf,fd',fz,hF,hg1⟩:=q3l hE hg;obtain⟨hsz,hg2⟩:=q15 hg1;have hsz':fi.size≠0:=by have:=BB hsz;omega
  have run:∀b p,a.eval x=.pointer (some ⟨b,p,none⟩)->(execOp a.eval o).run E.P w=.ok (.value (.pointer (some ⟨b,p+off,none⟩))) w:=λb p hv=>by
   simp[execOp,hop,hv,Instr.fieldAt,hT.runU,hfd,Instr.sureAddr,fieldPlace,hft,hF.runS,hsz',ho,q53]
  clear hg hg1
  obtain⟨_,hg⟩:=qfw (f:=λs=>match s with
   |.ptr id o'=>out o.dst (.ptr id (o'+off)) []
   |.ept id sz j c=>out o.dst (.ept id sz j (c+off)) []
   |.fp sz xs j c=>out o.dst (.fp sz xs j (c+off)) []
   |_=>.fail) hs hg2
  unfold live at hg2;split at hg2
  ·rename_i id off';obtain⟨e,he,hg3⟩:=q2u hg2;split at hg3
   ·have hv:=hs.qbi he;exact .q1i (run _ _ hv) (q1c h hd (.ptr he rfl) hg)
   ·exact(qg hg3).elim
  ·rename_i id sz j c;obtain⟨e,he,hg3⟩:=q2u hg2;have fin:∀s' len,e.row=some (s',len)->Goal E.P X M o a w us:=λs' len hr=>by
    obtain⟨hv,e1,e2,e3⟩:=hs.qbj he hr;have:=run _ _ hv;rw[Bl,Bl]at this;exact .q1i this (q1c h hd (e1▸.ept he (e1▸hr) e3 e2) hg)
   split at hg3
   ·exact fin _ _ rfl
   ·exact fin _ _ rfl
   ·exact(qg hg3).elim
  ·rename_i sz xs j c;obtain⟨b,p,hv,h1,h2,h3⟩:=hs.qdm;have:=run _ _ hv;rw[Bl,Bl]at this;exact .q1i this (q1c h hd (.fp h1 h2 h3) hg)
  ·exact(qg hg2).elim
 ·exact(qg hg).elim
theorem sim_field{st:TypeId}{x:Operand}{f:Nat}(hE:q14 E)(h:Rel X M a w γ S)(hd:∀d,o.dst=some d->X.Dst d)(hop:o.op=.field st x f)(hg0:Gets (rtOp E call o) M us):Goal E.P X M o a w us:=by
 simp only[rtOp,hop]at hg0;obtain⟨i,inf,d,z,hT,hg1⟩:=q3l hE hg0;obtain⟨s,hs,hg⟩:=q1j h hg1;clear hg0 hg1;split at hg
 ·rename_i off ft cs hf;obtain⟨fs,fd,rfl,hfd,ho,hft⟩:=hT.flds hf;obtain⟨fi,finf,fd',fz,hF,hg1⟩:=q3l hE hg;obtain⟨hle,hg2⟩:=q15 hg1;have hle':=BB hle;obtain⟨vs,hv,hl,hr⟩:=hs.qaf;clear hg hg1;cases hfa:fi.agg with
  |true =>
   rw[hfa]at hg2;refine .q1i (v:=.agg (vs.extract off (off+fi.size))) ?_ (q1c h hd (.agg ?_ ?_) hg2)
   ·simp[execOp,hop,hv,Instr.field,hT.runU,hfd,part,asAgg,hft,hF.runA,hF.runS,hfa,ho]
   ·simp;omega
   ·intro j s hj;rw[Dl]at hj;split at hj
    ·rw[CB]at hj;have:=hr _ _ hj;have hlt:=(Am.1 hj).1;have hlt':off+j<vs.size:=by omega
     rw[Az,Array.getElem?_extract_of_lt (by omega)];rwa[Az,Bo hlt']at this
    ·simp at hj
  |false =>
   rw[hfa]at hg2;simp only[Ab]at hg2;split at hg2
   ·rename_i v' hv';have hlt:=(Am.1 hv').1;obtain⟨v0,hq⟩:∃v0,vs[off]?=some v0:=⟨_,Bo (by omega)⟩;have hr':=hr _ _ hv';rw[Az,hq,Bg]at hr';refine .q1i (v:=v0) ?_ (q1c h hd hr' hg2);simp[execOp,hop,hv,Instr.field,hT.runU,hfd,part,asAgg,hft,hF.runA,hfa,ho,hq]
   ·exact(qg hg2).elim
 ·exact(qg hg).elim
theorem qqf{x:Operand}{j:Nat}(h:Rel X M a w γ S)(hd:∀d,o.dst=some d->X.Dst d)(hop:o.op=.extract x j)(hg0:Gets (rtOp E call o) M us):Goal E.P X M o a w us:=by
 simp only[rtOp,hop]at hg0;obtain⟨s,hs,hg⟩:=q1j h hg0;clear hg0;split at hg
 ·obtain⟨vs,hv,hl,hr⟩:=hs.tup_inv;split at hg
  ·rename_i v' hv';have hlt:=(Am.1 hv').1;obtain⟨v0,hq⟩:∃v0,vs[j]?=some v0:=⟨_,Bo (by omega)⟩;have hr':=hr _ _ hv';rw[Az,hq,Bg]at hr';exact .q1i (v:=v0) (by simp[execOp,hop,hv,Instr.extract,hq]) (q1c h hd hr' hg)
  ·exact(qg hg).elim
 ·exact(qg hg).elim
theorem qfx{i:Int}{n j:Nat}(h:ix i n=some j):0<=i/\i<n/\j=i.toNat/\j<n:=by
 unfold ix at h;split at h
 ·rename_i hh;cases h;exact⟨hh.1,hh.2,rfl,by omega⟩
 ·simp at h
theorem qf1{i:Int}{n j:Nat}(h:bd i n=some j):0<=i/\i<=n/\j=i.toNat/\j<=n:=by
 unfold bd at h;split at h
 ·rename_i hh;cases h;exact⟨hh.1,hh.2,rfl,by omega⟩
 ·simp at h
theorem sim_index{t:TypeId}{x y:Operand}(hE:q14 E)(h:Rel X M a w γ S)(hd:∀d,o.dst=some d->X.Dst d)(hop:o.op=.index t x y)(hg0:Gets (rtOp E call o) M us):Goal E.P X M o a w us:=by
 simp only[rtOp,hop]at hg0;obtain⟨s,hs,hg1⟩:=q1j h hg0;obtain⟨r,hr,hg⟩:=q1j h hg1;clear hg0 hg1;split at hg
 ·rename_i s' k n;have e1:=hs.q5s;have e2:=hr.q22;obtain⟨hu,hg⟩:=qf3 hE hg;obtain⟨b,hb,hg⟩:=qdk hg;unfold q2p at hb;split at hb
  ·rename_i h0;obtain⟨q,hq,rfl⟩:=BY.1 hb;refine .q1i (v:=.int .u8 q.toNat) ?_ (q1c h hd (.fv (.int _ _)) hg);simp[execOp,hop,e1,e2,Instr.index,asIntOf,run_underlying hu,h0,hq]
  ·simp at hb
 ·exact(qg hg).elim
theorem qqg{t:TypeId}{x y:Operand}(hE:q14 E)(h:Rel X M a w γ S)(hd:∀d,o.dst=some d->X.Dst d)(hop:o.op=.indexAddr t x y)(hg0:Gets (rtOp E call o) M us):Goal E.P X M o a w us:=by
 simp only[rtOp,hop]at hg0;obtain⟨el,te,inf,d,z,hu,hT,hg1⟩:=q54 hE hg0;obtain⟨s,hs,hg2⟩:=q1j h hg1;obtain⟨r,hr,hg⟩:=q1j h hg2;clear hg0 hg1 hg2;have run:∀(k:IntKind) (n:Int) (b p:Nat) (len cap:Nat),a.eval y=.int k n->a.eval x=.slice (some ⟨b,p,none⟩) len cap->0<=n->n<len ->
   (execOp a.eval o).run E.P w=.ok (.value (.pointer (some ⟨b,p+n.toNat*te.size,none⟩))) w:=by
  intro k n b p len cap h1 h2 h3 h4;simp[execOp,hop,h1,h2,Instr.indexAt,asIntOf,run_underlying hu,h3,h4,hT.runS,q53]
 split at hg
 ·rename_i k n;have e2:=hr.q22;split at hg
  ·rename_i sz xs;obtain⟨hsz,hg1⟩:=q15 hg;have hsz':=Aw hsz;obtain⟨j,hj,hg2⟩:=q94 hg1;obtain⟨h0,h1,rfl,h3⟩:=qfx hj;obtain⟨aa,cap,b,p,hv,hc,ha,hrow⟩:=FRep.q30.1 hs.qce;have hne:xs≠[]:=by intro hx;simp[hx]at h3
   obtain⟨rfl,hS⟩:=ha hne;refine .q1i (run k n b p _ cap e2 hv h0 h1) (q1c h hd ?_ hg2);have:=SRep.fp (γ:=γ) (hd:=hdOf M) (c:=0) hS hrow h3;rw[Ay,hsz']at this;rw[hsz'];exact this
  ·rename_i id view;obtain⟨e,he,hg1⟩:=q2u hg;have fin:∀(sz:Nat) (xs:List FV),e.row=some (sz,xs.length)->Gets (bif Nat.beq sz te.size then ixView n xs.length view λj=>out o.dst (.ept id sz j 0) []else .fail) M us->(∀q,(γ id).base=some q->(γ id).nil=false)->Goal E.P X M o a w us:=by
    intro sz xs hrow hg hnil;obtain⟨hsz,hg1⟩:=q15 hg;have hsz':=Aw hsz;subst hsz';rcases hs.q5u he hrow with⟨rfl,hv⟩ | ⟨o',m,aa,c,rfl,hv,hom,hc,ha,_⟩
    ·obtain⟨j,hj,hg2⟩:=q94 hg1;obtain⟨h0,h1,rfl,h3⟩:=qfx hj;have hnn:(γ id).nil=false:=by
      cases hq:(γ id).nil with
      |false=>rfl
      |true =>
       exfalso;have ho:=h.head id e he;cases e with
       |vec _ ys=>simp[ORep,hq]at ho;simp[Ent.row]at hrow;rw[<- hrow.2,ho.2.1]at h3;simp at h3
       |frz _ ys=>simp[ORep,hq]at ho;simp[Ent.row]at hrow;rw[<- hrow.2,ho.2.1]at h3;simp at h3
       |_=>simp[Ent.row]at hrow
     have hb:(γ id).base=some ⟨(γ id).blk,(γ id).off,none⟩:=by simp[Gh.base,hnn]
     rw[hb]at hv;refine .q1i (run k n _ _ _ _ e2 hv h0 h1) (q1c h hd ?_ hg2);exact SRep.ept (c:=0) he hrow hnn h3
    ·obtain⟨j,hj,hg2⟩:=q94 hg1;obtain⟨h0,h1,rfl,h3⟩:=qfx hj;obtain⟨hnn,rfl⟩:=ha (by omega);have:=run k n _ _ _ _ e2 hv h0 h1;refine .q1i this (q1c h hd ?_ hg2);have q:=SRep.ept (w:=w) (S:=S) (c:=0) (i:=o'+n.toNat) he hrow hnn (by omega);rwa[AU,Ay,<- Bl]at q
   split at hg1
   ·exact fin _ _ rfl hg1 (by intro q hq;unfold Gh.base at hq;split at hq <;> simp_all)
   ·exact fin _ _ rfl hg1 (by intro q hq;unfold Gh.base at hq;split at hq <;> simp_all)
   ·exact(qg hg1).elim
  ·exact(qg hg).elim
 ·exact(qg hg).elim
end
end
section
theorem Row.sub{w:World}{S:Nat->Prop}{b o sz:Nat}{xs:List FV}(h:Row w S b o sz xs)(l n:Nat):Row w S b (o+l*sz) sz ((xs.take n).drop l):=by
 refine⟨λx hx=>h.1 x (CJ (Cy hx)),λi j x c h1 h2=>?_⟩;rw[CB,Dl]at h1;split at h1
 ·obtain⟨v,h3,h4⟩:=h.2 (l+i) j x c h1 h2;exact⟨v,by rw[show o+l*sz+(i*sz+j)=o+((l+i)*sz+j) by rw[AU];omega];exact h3,h4⟩
 ·simp at h1
section
variable {E:Env} {call:FuncId->List FV->Res} {X:Cx} {M:Mem} {a:Act} {w:World} {γ:Nat->Gh} {S:Nat->Prop} {us:List (Key×Ent)} {o:Oper}
def BV(x:Option Int)(v:Option Value):Prop:=(x=none/\v=none)\/∃k n,x=some n/\v=some (.int k n)
theorem run_sliceBound{P:Program}{k:IntKind}{n:Int}{y:Nat}{j:Nat}{code:BoundsCode}(h:0<=n/\n<=y/\j=n.toNat)(w:World):(Instr.sliceBound (.int k n) y code).run P w=.ok j w:=by
 simp[Instr.sliceBound,asIntOf,h.1,h.2.1,h.2.2]
theorem qcu{len:Nat}{lo hi:Option Int}{g:Nat->Nat->RT}(hg:Gets (slB len lo hi g) M us){lov hiv:Option Value}(hl:BV lo lov)(hh:BV hi hiv) :
  ∃l h,l<=h/\h<=len/\Gets (g l h) M us/\∀(P:Program) (w:World) (b:Bool) (cap:Nat),len<=cap->(Instr.sliceBounds b len cap lov hiv none).run P w=.ok (l,h,cap) w:=by
 unfold slB at hg;have low:∀h,h<=len->Gets (slLo h lo g) M us->∃l,l<=h/\Gets (g l h) M us/\((lov=none/\l=0)\/∃k n,lov=some (.int k n)/\0<=n/\n<=h/\l=n.toNat):=by
  intro h hle hg;unfold slLo at hg;rcases hl with⟨rfl,rfl⟩ | ⟨k,n,rfl,rfl⟩
  ·exact⟨0,BL _,hg,.inl ⟨rfl,rfl⟩⟩
  ·obtain⟨l,h1,hg⟩:=q94 hg;obtain⟨q1,q2,q3,q4⟩:=qf1 h1;exact⟨l,q4,hg,.inr ⟨k,n,rfl,q1,q2,q3⟩⟩
 rcases hh with⟨rfl,rfl⟩ | ⟨k,n,rfl,rfl⟩
 ·obtain⟨l,h1,h2,h3⟩:=low len (Ak _) hg;refine⟨l,len,h1,Ak _,h2,λP w b cap hc=>?_⟩;rcases h3 with⟨rfl,rfl⟩ | ⟨k',n',rfl,r1,r2,r3⟩
  ·simp[Instr.sliceBounds]
  ·simp[Instr.sliceBounds,run_sliceBound (P:=P) (k:=k') ⟨r1,r2,r3⟩]
 ·obtain⟨h,h0,hg⟩:=q94 hg;obtain⟨q1,q2,q3,q4⟩:=qf1 h0;obtain⟨l,h1,h2,h3⟩:=low h q4 hg;refine⟨l,h,h1,q4,h2,λP w b cap hc=>?_⟩;have hb:=λ(code:BoundsCode) (w:World)=>run_sliceBound (P:=P) (k:=k) (n:=n) (y:=cap) (j:=h) (code:=code) ⟨q1,by omega,q3⟩ w;rcases h3 with⟨rfl,rfl⟩ | ⟨k',n',rfl,r1,r2,r3⟩
  ·simp[Instr.sliceBounds,hb]
  ·simp[Instr.sliceBounds,hb,run_sliceBound (P:=P) (k:=k') ⟨r1,r2,r3⟩]
theorem qf2(h:Rel X M a w γ S){x:Option Operand}{f:Option SV->RT}(hg:Gets (opdO x f) M us) :
  (x=none/\Gets (f none) M us)\/∃y s,x=some y/\SRep w S γ (hdOf M) s (a.eval y)/\Gets (f (some s)) M us:=by
 unfold opdO at hg;split at hg
 ·exact .inl ⟨rfl,hg⟩
 ·obtain⟨s,hs,hg⟩:=q1j h hg;exact .inr ⟨_,s,rfl,hs,hg⟩
theorem qio{x:Option Operand}{s:Option SV}{f:Option Int->RT}(hx:(x=none/\s=none)\/∃y t,x=some y/\s=some t/\SRep w S γ (hdOf M) t (a.eval y))(hg:Gets (qcv s f) M us) :
  ∃n,BV n (x.map a.eval)/\Gets (f n) M us:=by
 unfold qcv at hg;rcases hx with⟨rfl,rfl⟩ | ⟨y,t,rfl,rfl,ht⟩
 ·exact⟨none,.inl ⟨rfl,rfl⟩,hg⟩
 ·cases t with
  |fv q =>
   cases q with
   |int k n=>exact⟨some n,.inr ⟨k,n,rfl,by simp[ht.q22]⟩,hg⟩
   |_=>exact(qg hg).elim
  |_=>exact(qg hg).elim
theorem nil_len{e:Ent}{id sz len:Nat}(h:Rel X M a w γ S)(he:hdOf M id=some e)(hr:e.row=some (sz,len))(hl:0<len):(γ id).nil=false:=by
 cases hq:(γ id).nil with
 |false=>rfl
 |true =>
  exfalso;have ho:=h.head id e he;cases e with
  |vec _ ys=>simp[ORep,hq]at ho;simp[Ent.row]at hr;rw[<- hr.2,ho.2.1]at hl;simp at hl
  |frz _ ys=>simp[ORep,hq]at ho;simp[Ent.row]at hr;rw[<- hr.2,ho.2.1]at hl;simp at hl
  |_=>simp[Ent.row]at hr
theorem len_cap{e:Ent}{id sz len:Nat}(h:Rel X M a w γ S)(he:hdOf M id=some e)(hr:e.row=some (sz,len)):len<=(γ id).cap:=by
 have ho:=h.head id e he;cases e with
 |vec _ ys=>simp[Ent.row]at hr;rw[<- hr.2];exact ho.1
 |frz _ ys=>simp[Ent.row]at hr;rw[<- hr.2];exact ho.1
 |_=>simp[Ent.row]at hr
theorem qcw{P:Program}{t el:TypeId}(hu:P.underlying t=some (.slice el))(x:Value)(lo hi mx:Option Value)(w:World):(Instr.sliceAt t x lo hi mx).run P w=(Instr.slice t x lo hi mx).run P w:=by
 simp[Instr.sliceAt,run_underlying hu]
theorem qo9{P:Program}{t:TypeId}(hu:P.underlying t=some .string)(x:Value)(lo hi mx:Option Value)(w:World):(Instr.sliceAt t x lo hi mx).run P w=(Instr.slice t x lo hi mx).run P w:=by
 simp[Instr.sliceAt,run_underlying hu]
theorem sim_slice{t:TypeId}{x:Operand}{lo hi mx:Option Operand}(hE:q14 E)(h:Rel X M a w γ S)(hd:∀d,o.dst=some d->X.Dst d)(hop:o.op=.slice t x lo hi mx)(hg0:Gets (rtOp E call o) M us):Goal E.P X M o a w us:=by
 simp only[rtOp,hop]at hg0;obtain⟨s,hs,hg1⟩:=q1j h hg0;clear hg0;rcases qf2 h hg1 with hlo | hlo
 all_goals
  clear hg1
  first
   |obtain⟨rfl,hg2⟩:=hlo
    have hlo':(none:Option Operand)=none/\(none:Option SV)=none\/∃y t,(none:Option Operand)=some y/\(none:Option SV)=some t/\SRep w S γ (hdOf M) t (a.eval y):=.inl ⟨rfl,rfl⟩
   |obtain⟨y1,s1,rfl,hs1,hg2⟩:=hlo
    have hlo':(some y1:Option Operand)=none/\(some s1:Option SV)=none\/∃y t,(some y1:Option Operand)=some y/\(some s1:Option SV)=some t/\SRep w S γ (hdOf M) t (a.eval y):=.inr ⟨_,_,rfl,rfl,hs1⟩
  rcases qf2 h hg2 with hhi | hhi
  all_goals
   clear hg2
   first
    |obtain⟨rfl,hg3⟩:=hhi
     have hhi':(none:Option Operand)=none/\(none:Option SV)=none\/∃y t,(none:Option Operand)=some y/\(none:Option SV)=some t/\SRep w S γ (hdOf M) t (a.eval y):=.inl ⟨rfl,rfl⟩
    |obtain⟨y2,s2,rfl,hs2,hg3⟩:=hhi
     have hhi':(some y2:Option Operand)=none/\(some s2:Option SV)=none\/∃y t,(some y2:Option Operand)=some y/\(some s2:Option SV)=some t/\SRep w S γ (hdOf M) t (a.eval y):=.inr ⟨_,_,rfl,rfl,hs2⟩
   rcases qf2 h hg3 with⟨rfl,hg4⟩ | ⟨_,_,_,_,hg4⟩
   ·clear hg3;dsimp only at hg4;obtain⟨l,hl,hg5⟩:=qio hlo' hg4;obtain⟨u,hu,hg6⟩:=qio hhi' hg5;clear hg4 hg5;exact sliceFin hE h hd hop hs hl hu hg6
   ·exact(qg hg4).elim
where
 sliceFin {t:TypeId} {x:Operand} {lo hi:Option Operand} (hE:q14 E) (h:Rel X M a w γ S) (hd:∀d,o.dst=some d->X.Dst d) (hop:o.op=.slice t x lo hi none) {s:SV} (hs:SRep w S γ (hdOf M) s (a.eval x))
   {l u:Option Int} (hl:BV l (lo.map a.eval)) (hu:BV u (hi.map a.eval)) (hg:Gets (sliceOp E t s l u λv=>out o.dst v []) M us):Goal E.P X M o a w us:=by
  have run:∀v,(Instr.sliceAt t (a.eval x) (lo.map a.eval) (hi.map a.eval) none).run E.P w=.ok v w->(execOp a.eval o).run E.P w=.ok (.value v) w:=λv hv=>by
   simp[execOp,hop,hv]
  unfold sliceOp at hg;split at hg
  ·rename_i str;have e:=hs.q5s;obtain⟨ht,hg⟩:=qf3 hE hg;obtain⟨p,q,h1,h2,hg,hb⟩:=qcu hg hl hu;refine .q1i (v:=.string (str.extract p q)) (run _ ?_) (q1c h hd (.fv (.str _)) hg);rw[qo9 ht,e];simp[Instr.slice,run_underlying ht,hb E.P w false str.size (Ak _)]
  ·rename_i sz xs;obtain⟨el,te,inf,d,z,ht,hT,hg⟩:=q54 hE hg;obtain⟨hsz,hg⟩:=q15 hg;have hsz':=Aw hsz;obtain⟨p,q,h1,h2,hg,hb⟩:=qcu hg hl hu;obtain⟨aa,cap,b,o',hv,hc,ha,hrow⟩:=FRep.q30.1 hs.qce;have hlen:((xs.take q).drop p).length=q-p:=by simp;omega
   refine .q1i (v:=.slice (if cap=p then aa else aa.map (·.add (p*te.size))) (q-p) (cap-p)) (run _ ?_) (q1c h hd (.fv (FRep.q30.2 ⟨_,_,b,o'+p*sz,by rw[hlen],by rw[hlen];omega,λhne=>?_,hrow.sub p q⟩)) hg)
   ·rw[qcw ht,hv];simp[Instr.slice,run_underlying ht,hb E.P w true cap hc,hT.runS]
   ·have:q-p≠0:=by intro h0;exact hne (BH (by rw[hlen];exact h0))
    obtain⟨rfl,hS⟩:=ha (by rintro rfl;simp at h2;omega);rw[if_neg (by omega)];exact⟨by simp[q53,hsz'],hS⟩
  ·obtain⟨el,te,inf,d,z,ht,hT,hg⟩:=q54 hE hg;obtain⟨p,q,h1,h2,hg,hb⟩:=qcu hg hl hu;have e:=hs.q8o;obtain rfl:p=0:=by omega
   obtain rfl:q=0:=by omega
   refine .q1i (v:=.slice none 0 0) (run _ ?_) (q1c h hd .nilS hg);rw[qcw ht,e];simp[Instr.slice,run_underlying ht,hb E.P w true 0 (Ak _),hT.runS]
  ·rename_i id view;obtain⟨el,te,inf,d,z,ht,hT,hg⟩:=q54 hE hg;obtain⟨e,he,hg⟩:=q2u hg;split at hg
   ·rename_i sz len hrow;obtain⟨hsz,hg⟩:=q15 hg;have hsz':=Aw hsz;obtain⟨p,q,h1,h2,hg,hb⟩:=qcu hg hl hu;have hcap:=len_cap h he hrow;rcases hs.q5u he hrow with⟨rfl,hv⟩ | ⟨o',m,aa,c,rfl,hv,hom,hc,ha,h0⟩
    ·simp only[viewOf]at h2 hb hg;refine .q1i (v:=.slice (if(γ id).cap=p then(γ id).base else(γ id).base.map (·.add (p*te.size))) (q-p) ((γ id).cap-p)) (run _ ?_) (q1c h hd (.view he hrow (by omega) (by omega) (λhne=>?_) λh0=>?_) hg)
     ·rw[qcw ht,hv];simp[Instr.slice,run_underlying ht,hb E.P w true _ hcap,hT.runS]
     ·have hn:=nil_len h he hrow (by omega);rw[if_neg (by omega)];exact⟨hn,by simp[Gh.base,hn,q53,hsz']⟩
     ·have:p=0:=by omega
      subst this;refine⟨?_,by simp⟩;split
      ·rfl
      ·cases(γ id).base <;> simp[Addr.add]
    ·simp only[viewOf]at h2 hb hg;refine .q1i (v:=.slice (if c=p then aa else aa.map (·.add (p*te.size))) (q-p) (c-p)) (run _ ?_) (q1c h hd (.view he hrow (by omega) (by omega) (λhne=>?_) λh0'=>?_) hg)
     ·rw[qcw ht,hv];simp[Instr.slice,run_underlying ht,hb E.P w true _ hc,hT.runS]
     ·obtain⟨hn,rfl⟩:=ha (by omega);rw[if_neg (by omega)];refine⟨hn,?_⟩;simp only[AE,q53,hsz',AU,Bl]
     ·have hp:p=0:=by omega
      have ho:o'=0:=by omega
      subst hp;obtain⟨rfl,rfl⟩:=h0 ho;refine⟨?_,by simp⟩;split
      ·rfl
      ·cases(γ id).base <;> simp[Addr.add]
   ·exact(qg hg).elim
  ·exact(qg hg).elim
end
end
section
section
variable {P:Program} {t:TypeId} {i:TyI} {inf:TypeInfo} {d:TypeDesc} {z:Value}
theorem qlp(hT:TyOk P t i inf d z)(ha:i.agg=true){w:World}{b p:Nat}(cs:List Value)(hl:cs.length=i.size)(h:∀(j:Nat) (v:Value),cs[j]?=some v->cellAt w b (p+j)=some v) :
  (loadVar t ⟨b,p,none⟩).run P w=.ok (.agg cs.toArray) w:=by
 have:=run_loadCells_list (P:=P) w ⟨b,p,none⟩ cs (λj v hv=>by rw[q53];exact h j v hv);simp[loadVar,hT.runA,ha,hT.runS,<- hl,this]
theorem qlq(hT:TyOk P t i inf d z)(ha:i.agg=false){w:World}{b p:Nat}{v:Value}(h:cellAt w b p=some v):(loadVar t ⟨b,p,none⟩).run P w=.ok v w:=by
 have h':w.cell? ⟨b,p,none⟩=some v:=h;simp[loadVar,hT.runA,ha,h']
theorem TyOk.one(h:TyOk P t i inf d z)(ha:i.agg=false):∃k,i.ck=[k]/\i.size=1:=by
 have hc:=h.scalar ha;have hl:=h.len;unfold ck1 at hc;split at hc <;> first | (simp at hc;done) | (rename_i hk;rw[hk]at hl;exact⟨_,hk,by simpa using hl.symm⟩)
theorem qld(hT:TyOk P t i inf d z){w:World}{b p:Nat}{v:Value}{cur:Array Value}{e:TypeId}(hs:v.cells.size=i.size)(hg:w.heap[b]?=some (.cells cur e (0,0)))(hl:p+i.size<=cur.size)
  (h1:∀u∈v.cells.toList,u.oneCell'=true) :
  (storeVar t ⟨b,p,none⟩ v).run P w=.ok () (w.setRow b (cur.toList.take p++v.cells.toList++cur.toList.drop (p+i.size)).toArray):=by
 have:=run_storeCells_at P b p e v.cells.toList 0 cur w hg (by simp[hs];omega) h1;simp only[Ay,Bz,hs]at this;simp only[storeVar,Sem.run_bind,hT.runS,Result.andThen_ok,hs,ne_eq,CV,BM];exact this
end
theorem But.setRow(w:World)(b:Nat)(cs:Array Value):But b w (w.setRow b cs) :=
 ⟨by simp[World.setRow],λk hk _=>setRow_other w b k cs hk,rfl,rfl,rfl⟩
section
variable {E:Env} {call:FuncId->List FV->Res} {X:Cx} {M:Mem} {a:Act} {w:World} {γ:Nat->Gh} {S:Nat->Prop} {us:List (Key×Ent)} {o:Oper}
theorem qh7{id:Nat}:∀ {n off:Nat} {f:List SV->RT},Gets (rdCells id off n f) M us ->
  ∃vs,vs.length=n/\(∀(j:Nat) (s:SV),vs[j]?=some s->Mem.get (.cell id (off+j)) M=some (.sv s))/\Gets (f vs) M us
 |0,off,f,h=>⟨[],rfl,λj s hj=>by simp at hj,h⟩
 |n+1,off,f,h=>by
  unfold rdCells at h;obtain⟨e,he,h⟩:=q6i h;split at h
  ·rename_i v;obtain⟨vs,h1,h2,h3⟩:=qh7 h;refine⟨v::vs,by simp[h1],λj s hj=>?_,h3⟩;cases j with
   |zero=>simp at hj;subst hj;exact he
   |succ j=>have:=h2 j s (by simpa using hj);rwa[Bl,Bn 1 j]at this
  ·exact(qg h).elim
theorem qg6{x:Option FV}{k:CK}{f:SV->RT}(h:Gets (rdFV x k f) M us) :
  ∃e s,x=some e/\s.flat=true/\(∀(w:World) (S:Nat->Prop) (γ:Nat->Gh) (hd:Nat->Option Ent) (v:Value),FRep w S e v->SRep w S γ hd s v)/\Gets (f s) M us:=by
 unfold rdFV at h;split at h
 ·obtain⟨n,hn,h'⟩:=qdk h;clear h;unfold asInt at hn;split at hn
  ·rename_i k0 k' m;split at hn
   ·rename_i hk;subst hk;cases hn;exact⟨_,_,rfl,rfl,λw S γ hd v hv=>.fv hv,h'⟩
   ·simp at hn
  ·simp at hn
 ·obtain⟨n,hn,h⟩:=qjk h;unfold asBool at hn;split at hn
  ·cases hn;exact⟨_,_,rfl,rfl,λw S γ hd v hv=>.fv hv,h⟩
  ·simp at hn
 ·obtain⟨n,hn,h⟩:=qeh h;unfold asStr at hn;split at hn
  ·cases hn;exact⟨_,_,rfl,rfl,λw S γ hd v hv=>.fv hv,h⟩
  ·simp at hn
 ·rename_i sz;obtain⟨n,hn,h'⟩:=qag h;clear h;unfold asLst at hn;split at hn
  ·rename_i s xs;split at hn
   ·rename_i hk;subst hk;cases hn;exact⟨_,_,rfl,rfl,λw S γ hd v hv=>.fv hv,h'⟩
   ·split at hn
    ·cases hn;refine⟨_,_,rfl,rfl,λw S γ hd v hv=>.fv ?_,h'⟩;obtain⟨aa,cap,b,o,rfl,h1,h2,h3⟩:=FRep.q30.1 hv;exact FRep.q30.2 ⟨aa,cap,b,o,rfl,h1,h2,λx hx=>by simp at hx,λi j x c hx=>by simp at hx⟩
    ·simp at hn
  ·simp at hn
 ·exact(qg h).elim
theorem qg5{xs:List FV}{i:Nat}:∀ {ks:List CK} {c:Nat} {f:List SV->RT},Gets (rdFVs xs i c ks f) M us ->
  ∃ss,ss.length=ks.length/\(∀(j:Nat) (s:SV),ss[j]?=some s->s.flat=true/\∃e,at' xs i (c+j)=some e/\∀(w:World) (S:Nat->Prop) (γ:Nat->Gh) (hd:Nat->Option Ent) (v:Value),FRep w S e v->SRep w S γ hd s v)/\Gets (f ss) M us
 |[],c,f,h=>⟨[],rfl,λj s hj=>by simp at hj,h⟩
 |k::ks,c,f,h=>by
  unfold rdFVs at h;obtain⟨e,s,h1,h2,h3,h⟩:=qg6 h;obtain⟨ss,h4,h5,h⟩:=qg5 h;refine⟨s::ss,by simp[h4],λj s' hj=>?_,h⟩;cases j with
  |zero=>simp at hj;subst hj;exact⟨h2,e,h1,h3⟩
  |succ j=>have:=h5 j s' (by simpa using hj);rwa[Bl,Bn 1 j]at this
theorem at'_row{b p sz i c:Nat}{xs:List FV}{e:FV}(hr:Row w S b p sz xs)(h:at' xs i c=some e):∃v,cellAt w b (p+(i*sz+c))=some v/\FRep w S e v:=by
 unfold at' at h;obtain⟨x,h1,h2⟩:=CD.1 h;exact hr.2 i c x e h1 h2
theorem qlr{t:TypeId}{ti:TyI}{inf:TypeInfo}{d:TypeDesc}{z:Value}(hT:TyOk E.P t ti inf d z){b p sz i c:Nat}{xs:List FV}(hr:Row w S b p sz xs){f:SV->RT}(hg:Gets (q7r ti xs i c f) M us) :
  ∃s v,(loadVar t ⟨b,p+(i*sz+c),none⟩).run E.P w=.ok v w/\SRep w S γ (hdOf M) s v/\Gets (f s) M us:=by
 unfold q7r at hg;cases ha:ti.agg with
 |true =>
  rw[ha]at hg;obtain⟨ss,h1,h2,hg⟩:=qg5 hg;have hv:∀j,j<ss.length->∃v,cellAt w b (p+(i*sz+(c+j)))=some v/\SRep w S γ (hdOf M) (ss.getD j .dead) v:=λj hj=>by
   obtain⟨_,e,h3,h4⟩:=h2 j ss[j] (Ag hj);obtain⟨v,h5,h6⟩:=at'_row hr h3;exact⟨v,h5,by simp only[AD,Ag hj,Bg];exact h4 _ _ _ _ _ h6⟩
  refine⟨.agg ss,.agg ((List.range ss.length).map λj=>(cellAt w b (p+(i*sz+(c+j)))).getD undef).toArray,?_,.agg (by simp) (λj s hj=>?_),hg⟩
  ·refine qlp hT ha _ (by simp[h1,hT.len]) λj v hj=>?_;simp only[Br,BY]at hj;obtain⟨k,hk,rfl⟩:=hj;obtain⟨hk1,rfl⟩:j<ss.length/\k=j:=by
    have:=Am.1 hk;obtain⟨q,r⟩:=this;simp at q r;exact⟨q,r.symm⟩
   obtain⟨v,h5,_⟩:=hv k hk1;rw[show p+(i*sz+c)+k=p+(i*sz+(c+k)) by omega,h5];rfl
  ·have hj':=(Am.1 hj).1;obtain⟨v,h5,h6⟩:=hv j hj';simp only[AD,hj,Bg]at h6;simpa[Az,hj',h5]using h6
 |false =>
  rw[ha]at hg;obtain⟨k,hk,hs⟩:=hT.one ha;simp only[Ab,hk]at hg;obtain⟨e,s,h1,h2,h3,hg⟩:=qg6 hg;obtain⟨v,h5,h6⟩:=at'_row hr h1;exact⟨s,v,qlq hT ha h5,h3 _ _ _ _ _ h6,hg⟩
theorem obj_rep{id n:Nat}(h:Rel X M a w γ S)(he:hdOf M id=some (.obj n)):∃vals e,w.heap[(γ id).blk]?=some (.cells vals e (0,0))/\vals.size=n /\
   ∀j,j<n->∃s,Mem.get (.cell id j) M=some (.sv s)/\s.flat=true/\SRep w S γ (hdOf M) s (vals.getD j undef):=(h.head id _ he).2
theorem qkt{t:TypeId}{ti:TyI}{inf:TypeInfo}{d:TypeDesc}{z:Value}(hT:TyOk E.P t ti inf d z)(h:Rel X M a w γ S){s:SV}{pv:Value}(hs:SRep w S γ (hdOf M) s pv){f:SV->RT}(hg:Gets (load ti s f) M us) :
  ∃b p s v,pv=.pointer (some ⟨b,p,none⟩)/\(loadVar t ⟨b,p,none⟩).run E.P w=.ok v w/\SRep w S γ (hdOf M) s v/\Gets (f s) M us:=by
 have fin:∀b p s v,pv=.pointer (some ⟨b,p,none⟩)->(loadVar t ⟨b,p,none⟩).run E.P w=.ok v w->SRep w S γ (hdOf M) s v->Gets (f s) M us ->
   ∃b p s v,pv=.pointer (some ⟨b,p,none⟩)/\(loadVar t ⟨b,p,none⟩).run E.P w=.ok v w/\SRep w S γ (hdOf M) s v/\Gets (f s) M us:=λb p s v h1 h2 h3 h4=>⟨b,p,s,v,h1,h2,h3,h4⟩
 unfold load at hg;split at hg
 ·rename_i id off;obtain⟨e,he,hg⟩:=q2u hg;split at hg
  ·rename_i n;obtain⟨hle,hg⟩:=q15 hg;have hle':=BB hle;have hv:=hs.qbi he;obtain⟨vals,te,hb,hsz,hc⟩:=obj_rep h he;cases ha:ti.agg with
   |true =>
    rw[ha]at hg;obtain⟨ss,h1,h2,hg⟩:=qh7 hg;refine fin _ _ (.agg ss) (.agg ((vals.toList.drop off).take ti.size).toArray) hv ?_ (.agg (by simp;omega) λj s hj=>?_) hg
    ·refine qlp hT ha _ (by simp;omega) λj v hj=>?_;rw[q5c hb];rw[Dl]at hj;split at hj
     ·rw[CB]at hj;simpa using hj
     ·simp at hj
    ·have hj':=(Am.1 hj).1;obtain⟨s',q1,q2,q3⟩:=hc (off+j) (by omega);rw[h2 j s hj]at q1;cases q1;have:((vals.toList.drop off).take ti.size).toArray.getD j undef=vals.getD (off+j) undef:=by
      have:j<ti.size:=by omega
      simp[Az,this]
     rw[this];exact q3
   |false =>
    rw[ha]at hg;simp only[Ab]at hg;obtain⟨e',he',hg⟩:=q6i hg;obtain⟨k,hk,h1⟩:=hT.one ha;split at hg
    ·rename_i v;obtain⟨s',q1,q2,q3⟩:=hc off (by omega);rw[he']at q1;cases q1;refine fin _ _ v (vals.getD off undef) hv (qlq hT ha ?_) q3 hg;rw[q5c hb,Az,Bo (by omega),Bg]
    ·exact(qg hg).elim
  ·exact(qg hg).elim
 ·rename_i sz xs i c;obtain⟨_,hg⟩:=q15 hg;obtain⟨b,p,hv,h1,h2,h3⟩:=hs.qdm;obtain⟨s',v,h4,h5,h6⟩:=qlr (γ:=γ) hT h2 hg;exact fin _ _ s' v hv h4 h5 h6
 ·rename_i id sz i c;obtain⟨e,he,hg⟩:=q2u hg;have go:∀s' xs,e.row=some (s',xs.length)->(e=.vec s' xs\/e=.frz s' xs)->Gets (bif Nat.beq s' sz&&Nat.ble (c+ti.size) sz then q7r ti xs i c f else .fail) M us ->
    ∃b p s v,pv=.pointer (some ⟨b,p,none⟩)/\(loadVar t ⟨b,p,none⟩).run E.P w=.ok v w/\SRep w S γ (hdOf M) s v/\Gets (f s) M us:=by
   clear hg;intro s' xs hrow hcase hg0;obtain⟨hb,hg⟩:=q15 hg0;clear hg0;obtain⟨hv,rfl,hi,hn⟩:=hs.qbj he hrow;have hrowR:Row w S (γ id).blk (γ id).off sz xs:=by
    have ho:=h.head id e he;rcases hcase with rfl | rfl
    ·have:=ho.2;rw[if_neg (by simp[hn])]at this;obtain⟨_,_,_,_,q⟩:=this;exact q
    ·have:=ho.2;rw[if_neg (by simp[hn])]at this;exact this.2
   obtain⟨s',v,h4,h5,h6⟩:=qlr (γ:=γ) hT hrowR hg;exact fin _ _ s' v hv h4 h5 h6
  split at hg
  ·exact go _ _ rfl (.inl rfl) hg
  ·exact go _ _ rfl (.inr rfl) hg
  ·exact(qg hg).elim
 ·exact(qg hg).elim
theorem sim_load{t:TypeId}{x:Operand}(hE:q14 E)(h:Rel X M a w γ S)(hd:∀d,o.dst=some d->X.Dst d)(hop:o.op=.load t x)(hg0:Gets (rtOp E call o) M us):Goal E.P X M o a w us:=by
 simp only[rtOp,hop]at hg0;obtain⟨ti,inf,d,z,hT,hg1⟩:=q3l hE hg0;obtain⟨s,hs,hg⟩:=q1j h hg1;obtain⟨b,p,s',v,h1,h2,h3,h4⟩:=qkt hT h hs hg;refine .q1i (v:=v) ?_ (q1c h hd h3 h4);simp[execOp,hop,Instr.loadAt,h1,Instr.sureAddr,h2]
end
end
section
def qv(M:Mem)(us:List (Key×Ent)):Prop :=
 ∀p,p∈us->∃id s xs,p=(.head id,.frz s xs)/\(hdOf M id=some (.vec s xs)\/hdOf M id=some (.frz s xs))
theorem qv.nil(M:Mem):qv M []:=λp hp=>by simp at hp
theorem qv.app{M:Mem}{u v:List (Key×Ent)}(h:qv M u)(k:qv M v):qv M (u++v):=λp hp=>(BD.1 hp).elim (h p) (k p)
theorem qv.cons{M:Mem}{id s:Nat}{xs:List FV}{u:List (Key×Ent)}(h:hdOf M id=some (.vec s xs)\/hdOf M id=some (.frz s xs))(k:qv M u):qv M ((.head id,.frz s xs)::u):=λp hp=>by
 rcases Ar.1 hp with rfl | hp
 ·exact⟨id,s,xs,rfl,h⟩
 ·exact k p hp
theorem qv.tail{M:Mem}{p:Key×Ent}{u:List (Key×Ent)}(h:qv M (p::u)):qv M u:=λq hq=>h q (AC _ hq)
theorem qv.get{M:Mem}{us:List (Key×Ent)}(h:qv M us)(k:Key) :
  (Mem.get k (us++M)=Mem.get k M/\∀e,(k,e) ∉ us)\/∃id s xs,k=.head id/\Mem.get k (us++M)=some (.frz s xs)/\(hdOf M id=some (.vec s xs)\/hdOf M id=some (.frz s xs)):=by
 induction us with
 |nil=>exact .inl ⟨rfl,λe h=>by simp at h⟩
 |cons p us ih =>
  obtain⟨id,s,xs,rfl,hp⟩:=h _ AJ;rw[Al,Mem.qj];by_cases hk:k=.head id
  ·rw[if_pos hk];exact .inr ⟨id,s,xs,hk,rfl,hp⟩
  ·rw[if_neg hk];rcases ih h.tail with⟨h1,h2⟩ | h1
   ·exact .inl ⟨h1,λe he=>(Ar.1 he).elim (λhe=>hk (by cases he;rfl)) (h2 e)⟩
   ·exact .inr h1
theorem qv.mem{M:Mem}{us:List (Key×Ent)}(h:qv M us){id s:Nat}{xs:List FV}(hm:(Key.head id,Ent.frz s xs)∈us):hdOf (us++M) id=some (.frz s xs):=by
 obtain⟨_,_,_,he,hq⟩:=h _ hm;cases he;rcases h.get (.head id)with⟨_,h2⟩ | ⟨id',s',xs',h1,h2,h3⟩
 ·exact absurd hm (h2 _)
 ·cases h1;rw[hdOf,h2];rcases hq with hq | hq <;> rcases h3 with h3 | h3 <;> rw[hq]at h3 <;> cases h3 <;> rfl
section
variable {X:Cx} {M:Mem} {a:Act} {w:World} {γ:Nat->Gh} {S:Nat->Prop}
theorem Rel.q8h(h:Rel X M a w γ S):∀ {us:List (Key×Ent)},qv M us ->
  ∃S',(∀b,S b->S' b)/\(∀b,S' b->S b\/∃id s xs,(Key.head id,Ent.frz s xs)∈us/\b=(γ id).blk)/\Rel X (us++M) a w γ S'
 |[],_=>⟨S,λ_ h=>h,λ_ h=>.inl h,h⟩
 |p::us,hf=>by
  obtain⟨S1,h1,h2,h3⟩:=h.q8h hf.tail;obtain⟨id,s,xs,rfl,hp⟩:=hf _ AJ;have hh:hdOf (us++M) id=some (.vec s xs)\/hdOf (us++M) id=some (.frz s xs):=by
   rcases hf.tail.get (.head id)with⟨q,_⟩ | ⟨id',s',xs',q1,q2,q3⟩
   ·rw[hdOf,q];exact hp
   ·cases q1;right;rw[hdOf,q2];rcases hp with hp | hp <;> rcases q3 with q3 | q3 <;> rw[hp]at q3 <;> cases q3 <;> rfl
  have hM:q3z id (us++M) ((.head id,.frz s xs)::(us++M)):=by
   refine⟨λi hi=>?_,λi j hi=>?_,λt=>?_⟩
   ·rw[hdOf,hdOf,Mem.qj,if_neg (by simpa using hi)]
   ·rw[Mem.qj,if_neg (by simp)]
   ·rw[Mem.qj,if_neg (by simp)]
  obtain⟨S',k1,k2,k3⟩:=h3.freeze hM hh (by rw[hdOf,Mem.qj,if_pos rfl]);refine⟨S',λb hb=>k1 b (h1 b hb),λb hb=>?_,k3⟩;rcases k2 b hb with q | q
  ·rcases h2 b q with q | ⟨id',s',xs',q1,q2⟩
   ·exact .inl q
   ·exact .inr ⟨id',s',xs',AC _ q1,q2⟩
  ·exact .inr ⟨id,s,xs,AJ,q⟩
theorem qv.hdLe{us:List (Key×Ent)}(h:qv M us):HdLe (hdOf M) (hdOf (us++M)) γ γ:=λid e he=>by
 rcases h.get (.head id)with⟨h1,_⟩ | ⟨id',s,xs,h1,h2,h3⟩
 ·exact⟨e,by rw[hdOf,h1];exact he,.inr ⟨rfl,rfl,λh=>h,rfl⟩⟩
 ·cases h1;refine⟨_,h2,.inr ?_⟩;rcases h3 with h3 | h3 <;> rw[he]at h3 <;> cases h3 <;> exact⟨rfl,rfl,λh=>by simp at h,rfl⟩
inductive FzOk(M:Mem)(us:List (Key×Ent)):SV->FV->Prop
 |nilS:FzOk M us .nilS (.list 0 [])
 |fv {x:FV} (h:x.flat=true):FzOk M us (.fv x) x
 |sl {id s:Nat} {xs:List FV} (h:(Key.head id,Ent.frz s xs)∈us):FzOk M us (.sl id none) (.list s xs)
 |view {id s o n:Nat} {xs:List FV} (h:(Key.head id,Ent.frz s xs)∈us):FzOk M us (.sl id (some (o,n))) (.list s ((xs.drop o).take n))
theorem FzOk.flat{us:List (Key×Ent)}{s:SV}{x:FV}(h:FzOk M us s x):x.flat=true:=by
 cases h with
 |fv h=>exact h
 |_=>rfl
theorem qae{w:World}{S:Nat->Prop}{sz:Nat}{a:Option Addr}{cap:Nat}:FRep w S (.list sz []) (.slice a 0 cap) :=
 FRep.q30.2 ⟨a,cap,0,0,rfl,BL _,λh=>absurd rfl h,λ_ h=>by simp at h,λi j x c h=>by simp at h⟩
theorem Row.sub'{b o sz:Nat}{xs:List FV}(h:Row w S b o sz xs)(l n:Nat):Row w S b (o+l*sz) sz ((xs.drop l).take n):=by
 have:=h.sub l (l+n);rwa[List.drop_take,Nat.add_sub_cancel_left]at this
theorem frz_rep(h:Rel X M a w γ S){id s:Nat}{xs:List FV}(he:hdOf M id=some (.frz s xs)){view:Option (Nat×Nat)}{v:Value}(hv:SRep w S γ (hdOf M) (.sl id view) v) :
  FRep w S (.list s (match view with | none=>xs | some (o,n)=>(xs.drop o).take n)) v:=by
 have ho:=h.head id _ he;rcases hv.q5u he rfl with⟨rfl,rfl⟩ | ⟨o,n,aa,c,rfl,rfl,h1,h2,h3,h4⟩
 ·by_cases hn:(γ id).nil=true
  ·have h2:=ho.2;rw[if_pos hn]at h2;simp only[h2.1,Be];exact qae
  ·have h2:=ho.2;rw[if_neg hn]at h2;exact FRep.q30.2 ⟨_,_,(γ id).blk,(γ id).off,rfl,ho.1,λ_=>⟨by simp[Gh.base,hn],h2.1⟩,h2.2⟩
 ·have hlen:((xs.drop o).take n).length=n:=by simp;omega
  by_cases h0:n=0
  ·subst h0;simp only[CP];exact qae
  ·obtain⟨hn,rfl⟩:=h3 h0;have h2':=ho.2;rw[if_neg (by simp[hn])]at h2';exact FRep.q30.2 ⟨_,c,(γ id).blk,(γ id).off+o*s,by rw[hlen],by rw[hlen];exact h2,λ_=>⟨rfl,h2'.1⟩,h2'.2.sub' o n⟩
theorem FzOk.rep{us:List (Key×Ent)}{s:SV}{x:FV}(hz:FzOk M us s x)(hf:qv M us)(h:Rel X (us++M) a w γ S){v:Value}(hv:SRep w S γ (hdOf (us++M)) s v):FRep w S x v/\x.flat=true/\v.oneCell'=true:=by
 cases hz with
 |nilS=>rw[hv.q8o];exact⟨qae,rfl,rfl⟩
 |fv hx =>
  cases hv with
  |fv hr =>
   refine⟨hr,hx,?_⟩;cases hr <;> first | rfl | exact hx | (simp[FV.flat]at hx)
  |tomb hs _=>simp[SV.refId]at hs
 |sl hm =>
  have:=frz_rep h (hf.mem hm) hv;rcases hv.q5u (hf.mem hm) rfl with⟨_,rfl⟩ | ⟨o,n,aa,c,q,_⟩
  ·exact⟨this,rfl,rfl⟩
  ·simp at q
 |view hm =>
  have:=frz_rep h (hf.mem hm) hv;rcases hv.q5u (hf.mem hm) rfl with⟨q,_⟩ | ⟨o,n,aa,c,q,rfl,_⟩
  ·simp at q
  ·exact⟨this,rfl,rfl⟩
theorem FzOk.mono{us vs:List (Key×Ent)}(hs:∀p,p∈us->p∈vs){s:SV}{x:FV}(h:FzOk M us s x):FzOk M vs s x:=by
 cases h with
 |nilS=>exact .nilS
 |fv h=>exact .fv h
 |sl h=>exact .sl (hs _ h)
 |view h=>exact .view (hs _ h)
theorem qdi{s:SV}{us:List (Key×Ent)}{f:FV->List (Key×Ent)->RT}(hg:Gets (frz1 s f) M us):∃x fz,qv M fz/\FzOk M fz s x/\Gets (f x fz) M us:=by
 unfold frz1 at hg;split at hg
 ·exact⟨_,[],qv.nil M,.nilS,hg⟩
 ·obtain⟨hx,hg⟩:=q15 hg;exact⟨_,[],qv.nil M,.fv hx,hg⟩
 ·rename_i id view;obtain⟨e,he,hg⟩:=q2u hg;split at hg
  ·rename_i s xs;split at hg
   ·exact⟨_,_,qv.cons (.inl he) (qv.nil M),.sl AJ,hg⟩
   ·exact⟨_,_,qv.cons (.inl he) (qv.nil M),.view AJ,hg⟩
  ·rename_i s xs;split at hg
   ·exact⟨_,_,qv.cons (.inr he) (qv.nil M),.sl AJ,hg⟩
   ·exact⟨_,_,qv.cons (.inr he) (qv.nil M),.view AJ,hg⟩
  ·exact(qg hg).elim
 ·exact(qg hg).elim
theorem qft{us:List (Key×Ent)}:∀ {ss:List SV} {f:List FV->List (Key×Ent)->RT},Gets (frzs ss f) M us ->
  ∃xs fz,qv M fz/\xs.length=ss.length/\(∀(j:Nat) (s:SV),ss[j]?=some s->∃x,xs[j]?=some x/\FzOk M fz s x)/\Gets (f xs fz) M us
 |[],f,hg=>⟨[],[],qv.nil M,rfl,λj s h=>by simp at h,hg⟩
 |s::ss,f,hg=>by
  unfold frzs at hg;obtain⟨x,fz,h1,h2,hg⟩:=qdi hg;obtain⟨xs,fz',h3,h4,h5,hg⟩:=qft hg;refine⟨x::xs,fz++fz',h1.app h3,by simp[h4],λj s' hj=>?_,hg⟩;cases j with
  |zero=>simp at hj;subst hj;exact⟨x,rfl,h2.mono λp hp=>Ef _ hp⟩
  |succ j =>
   obtain⟨x',q1,q2⟩:=h5 j s' (by simpa using hj);exact⟨x',by simpa using q1,q2.mono λp hp=>DE _ hp⟩
theorem gets_frz{s:SV}{us:List (Key×Ent)}{f:FV->List (Key×Ent)->RT}(hg:Gets (frz s f) M us) :
  ∃x fz,qv M fz/\Gets (f x fz) M us/\(x.cells.length=s.cells.length/\∀c,c∈x.cells->c.flat=true)/\∀(S':Nat->Prop) (v:Value),Rel X (fz++M) a w γ S'->SRep w S' γ (hdOf (fz++M)) s v ->
   v.cells.size=s.cells.length/\∀(j:Nat) (c:FV),x.cells[j]?=some c->∃u,v.cells[j]?=some u/\FRep w S' c u/\u.oneCell'=true:=by
 unfold frz at hg;split at hg
 ·rename_i cs;obtain⟨xs,fz,h1,h2,h3,hg⟩:=qft hg;refine⟨.agg xs,fz,h1,hg,⟨h2,λc hc=>?_⟩,λS' v hR hv=>?_⟩
  ·obtain⟨j,hj⟩:=Bu.1 hc;simp only[FV.cells]at hj;have hj':=(Am.1 hj).1;obtain⟨x',q1,q2⟩:=h3 j cs[j] (Ag (by omega));rw[hj]at q1;cases q1;exact q2.flat
  obtain⟨vs,rfl,hl,hr⟩:=hv.qaf;refine⟨hl,λj c hj=>?_⟩;simp only[FV.cells]at hj;have hj':=(Am.1 hj).1;have hjs:j<cs.length:=by omega
  obtain⟨x',q1,q2⟩:=h3 j cs[j] (Ag hjs);rw[hj]at q1;cases q1;have:=q2.rep h1 hR (hr j cs[j] (Ag hjs));have hv':vs[j]?=some (vs.getD j undef):=by
   rw[Az,Bo (by omega),Bg]
  exact⟨_,hv',this.1,this.2.2⟩
 ·rename_i hs;obtain⟨x,fz,h1,h2,hg⟩:=qdi hg;have hsc:s.cells=[s]:=by cases s <;> first | rfl | exact absurd rfl (hs _)
  have hxc:x.cells=[x]:=by cases h2 with
   |fv h=>cases x <;> first | rfl | simp[FV.flat]at h
   |_=>rfl
  refine⟨x,fz,h1,hg,⟨by rw[hsc,hxc];rfl,λc hc=>by rw[hxc]at hc;simp at hc;subst hc;exact h2.flat⟩,λS' v hR hv=>?_⟩;obtain⟨q1,q2,q3⟩:=h2.rep h1 hR hv;have hvc:v.cells=#[v]:=by cases v <;> first | rfl | simp[Value.oneCell']at q3
  rw[hvc,hsc,hxc];refine⟨rfl,λj c hj=>?_⟩;cases j with
  |zero=>simp at hj;subst hj;exact⟨v,rfl,q1,q3⟩
  |succ j=>simp at hj
end
end
section
theorem q9r(id:Nat)(k:Key):∀(off:Nat) (vs:List SV),Mem.get k (wrCells id off vs)=match k with
  |.cell i j=>if i=id/\off<=j/\j<off+vs.length then(vs[j-off]?).map Ent.sv else none
  |_=>none
 |off,[]=>by cases k <;> simp[wrCells,Mem.get]
 |off,v::vs=>by
  rw[wrCells,Mem.qj,q9r id k (off+1) vs];cases k with
  |slot t=>simp
  |head i=>simp
  |cell i j =>
   simp only[Key.cell.injEq,Aq];by_cases hi:i=id
   ·subst hi;by_cases hj:j=off
    ·subst hj;simp
    ·simp only[CU,hj,BM];by_cases h1:off+1<=j/\j<off+1+vs.length
     ·rw[if_pos h1,if_pos (by omega)];obtain⟨q,rfl⟩:∃q,j=off+1+q:=⟨j-(off+1),by omega⟩;rw[show off+1+q-(off+1)=q by omega,show off+1+q-off=q+1 by omega,AP]
     ·rw[if_neg h1,if_neg (by omega)]
   ·simp[hi]
theorem qa7(id i j off:Nat)(vs:List SV):Mem.get (.cell i j) (wrCells id off vs)=if i=id/\off<=j/\j<off+vs.length then(vs[j-off]?).map Ent.sv else none:=q9r id (.cell i j) off vs
theorem get_wrH(id i off:Nat)(vs:List SV):Mem.get (.head i) (wrCells id off vs)=none:=q9r id (.head i) off vs
theorem get_wrS(id t off:Nat)(vs:List SV):Mem.get (.slot t) (wrCells id off vs)=none:=q9r id (.slot t) off vs
theorem qg9(cur:List Value)(p:Nat)(news:List Value)(h:p+news.length<=cur.length)(k:Nat) :
  (cur.take p++news++cur.drop (p+news.length))[k]?=if p<=k/\k<p+news.length then news[k-p]? else cur[k]?:=by
 by_cases h1:k<p
 ·rw[if_neg (by omega),Ap,Dn (by simp;omega),CM h1]
 ·by_cases h2:k<p+news.length
  ·rw[if_pos ⟨by omega,h2⟩,Ap,CQ (by simp;omega),Dn (by simp;omega)];congr 1;simp;omega
  ·rw[if_neg (by omega),CQ (by simp;omega),CB];congr 1;simp;omega
section
variable {E:Env} {call:FuncId->List FV->Res} {X:Cx} {M:Mem} {a:Act} {w:World} {γ:Nat->Gh} {S:Nat->Prop} {us:List (Key×Ent)} {o:Oper}
theorem qd7:∀ {vs:List SV} {t:RT},Gets (lives vs t) M us->(∀s,s∈vs->∀id,s.refId=some id->∃e,hdOf M id=some e/\e≠.tomb)/\Gets t M us
 |[],t,h=>⟨λs hs=>by simp at hs,h⟩
 |v::vs,t,h=>by
  have key:∀id,v.refId=some id->Gets (q2y id λe=>match e with | .tomb=>.fail | _=>lives vs t) M us->(∃e,hdOf M id=some e/\e≠.tomb)/\Gets (lives vs t) M us:=by
   intro id _ hg;obtain⟨e,he,hg⟩:=q2u hg;cases e with
   |tomb=>exact(qg hg).elim
   |_=>exact⟨⟨_,he,by simp⟩,hg⟩
  have fin:(∀id,v.refId=some id->∃e,hdOf M id=some e/\e≠.tomb)->Gets (lives vs t) M us->(∀s,s∈v::vs->∀id,s.refId=some id->∃e,hdOf M id=some e/\e≠.tomb)/\Gets t M us:=by
   intro h1 h2;obtain⟨h3,h4⟩:=qd7 h2;refine⟨λs hs id hid=>?_,h4⟩;rcases Ar.1 hs with rfl | hs
   ·exact h1 id hid
   ·exact h3 s hs id hid
  unfold lives at h;cases v with
  |ptr id _=>obtain⟨h1,h2⟩:=key id rfl h;exact fin (λi hi=>by simp[SV.refId]at hi;subst hi;exact h1) h2
  |ept id _ _ _=>obtain⟨h1,h2⟩:=key id rfl h;exact fin (λi hi=>by simp[SV.refId]at hi;subst hi;exact h1) h2
  |sl id _=>obtain⟨h1,h2⟩:=key id rfl h;exact fin (λi hi=>by simp[SV.refId]at hi;subst hi;exact h1) h2
  |mp id=>obtain⟨h1,h2⟩:=key id rfl h;exact fin (λi hi=>by simp[SV.refId]at hi;subst hi;exact h1) h2
  |_=>exact fin (λi hi=>by simp[SV.refId]at hi) h
theorem qlc{hd:Nat->Option Ent}{s:SV}{v:Value}(h:SRep w S γ hd s v)(hf:s.flat=true)(hl:∀id,s.refId=some id->∃e,hd id=some e/\e≠.tomb):v.oneCell'=true:=by
 cases h with
 |fv hr=>cases hr <;> first | rfl | exact hf | (simp[SV.flat,FV.flat]at hf)
 |tomb h1 h2=>obtain⟨e,h3,h4⟩:=hl _ h1;rw[h2]at h3;cases h3;exact absurd rfl h4
 |agg _ _=>simp[SV.flat]at hf
 |tup _ _=>simp[SV.flat]at hf
 |dead=>simp[SV.flat]at hf
 |gone=>simp[SV.flat]at hf
 |_=>rfl
theorem qf9{hd:Nat->Option Ent}{s:SV}{v:Value}(h:SRep w S γ hd s v)(hf:s.cells.all SV.flat=true)(hl:∀c,c∈s.cells->∀id,c.refId=some id->∃e,hd id=some e/\e≠.tomb) :
  v.cells.size=s.cells.length/\(∀(j:Nat) (c:SV),s.cells[j]?=some c->c.flat=true/\SRep w S γ hd c (v.cells.getD j undef))/\∀u∈v.cells.toList,u.oneCell'=true:=by
 have hall:=Av.1 hf;by_cases hs:∃cs,s=.agg cs
 ·obtain⟨cs,rfl⟩:=hs;obtain⟨vs,rfl,h1,h2⟩:=h.qaf;refine⟨h1,λj c hj=>⟨hall c (AQ hj),h2 j c hj⟩,λu hu=>?_⟩;have hu':u∈vs.toList:=hu;obtain⟨j,hju⟩:=Bu.1 hu';have hj:=(Am.1 hju).1;simp only[Bz]at hj;have hjc:j<cs.length:=by rw[<- h1];exact hj
  have hc:(SV.agg cs).cells[j]?=some cs[j]:=Ag hjc;have:=h2 j cs[j] hc;rw[Az,<- BA,hju,Bg]at this;exact qlc this (hall _ (AQ hc)) (hl _ (AQ hc))
 ·have hsc:s.cells=[s]:=by cases s <;> first | rfl | exact absurd ⟨_,rfl⟩ hs
  rw[hsc]at hf hl ⊢;have hone:=qlc h (by simpa using hf) (hl s (by simp));have hvc:v.cells=#[v]:=by cases v <;> first | rfl | simp[Value.oneCell']at hone
  rw[hvc];refine⟨rfl,λj c hj=>?_,λu hu=>by simp at hu;subst hu;exact hone⟩;cases j with
  |zero=>simp at hj;subst hj;exact⟨by simpa using hf,h⟩
  |succ j=>simp at hj
theorem sim_store{t:TypeId}{x y:Operand}(hE:q14 E)(h:Rel X M a w γ S)(hop:o.op=.store t x y)(hdst:o.dst=none)(hg0:Gets (rtOp E call o) M us):Goal E.P X M o a w us:=by
 simp only[rtOp,hop]at hg0;obtain⟨ti,inf,d,z,hT,hg1⟩:=q3l hE hg0;obtain⟨s,hs,hg2⟩:=q1j h hg1;obtain⟨r,hr,hg⟩:=q1j h hg2;clear hg0 hg1 hg2;have run:∀b p w',a.eval x=.pointer (some ⟨b,p,none⟩)->(storeVar t ⟨b,p,none⟩ (a.eval y)).run E.P w=.ok () w'->(execOp a.eval o).run E.P w=.ok .skip w':=λb p w' h1 h2=>by
  simp[execOp,hop,Instr.storeAt,h1,Instr.sureAddr,h2]
 unfold store at hg;split at hg
 ·rename_i id off;obtain⟨e,he,hg⟩:=q2u hg;split at hg
  ·rename_i n;obtain⟨hb,hg⟩:=q15 hg;simp only[Ai]at hb;obtain⟨⟨hle,hlen⟩,hflat⟩:=hb;have hle':=BB hle;have hlen':=Aw hlen;obtain⟨hlv,hg⟩:=qd7 hg;obtain rfl:=q2s hg;have hv:=hs.qbi he;obtain⟨hnil,vals,te,hb,hsz,hc⟩:=h.head id _ he;obtain⟨c1,c2,c3⟩:=qf9 hr hflat hlv;have hrun:=qld hT (w:=w) (b:=(γ id).blk) (p:=off) (v:=a.eval y) (cur:=vals) (by rw[c1,hlen']) hb (by omega) c3;refine .skip (γ':=γ) (S':=S) (run _ _ _ hv hrun) ?_;rw[hdst];have hM:q3z id M (wrCells id off r.cells++M):=by
    refine⟨λi hi=>by simp[hdOf,Mem.get_append,q9r],λi j hi=>?_,λt=>by simp[Mem.get_append,q9r]⟩;rw[Mem.get_append,qa7,if_neg (λh=>hi h.1)];rfl
   have hhd:hdOf (wrCells id off r.cells++M)=hdOf M:=funext λi=>by simp[hdOf,Mem.get_append,q9r]
   refine h.change hM he trivial (by rw[hhd];exact he) ⟨rfl,rfl,by simp⟩ (But.setRow _ _ _) (λhh=>⟨hnil,_,te,setRow_heap w _ vals _ te _ hb,?_,λj hj=>?_⟩) trivial
   ·simp;omega
   ·have own:=h.own id _ he trivial;have hw:=h.toHRel.q8e (But.setRow w (γ id).blk (vals.toList.take off++(a.eval y).cells.toList++vals.toList.drop (off+ti.size)).toArray) own.2.1;have hget:(vals.toList.take off++(a.eval y).cells.toList++vals.toList.drop (off+ti.size)).toArray.getD j undef=if off<=j/\j<off+ti.size then(a.eval y).cells.getD (j-off) undef else vals.getD j undef:=by
     have:=qg9 vals.toList off (a.eval y).cells.toList (by simp[c1];omega) j;simp only[Bz,c1,hlen']at this;rw[Az,Ds,this];split <;> simp[Az]
    rw[hget];by_cases hin:off<=j/\j<off+ti.size
    ·rw[if_pos hin];have hjc:j-off<r.cells.length:=by omega
     obtain⟨q1,q2⟩:=c2 (j-off) r.cells[j-off] (Ag hjc);refine⟨r.cells[j-off],?_,q1,q2.mono hw (λ_ h=>h) hh⟩;rw[Mem.get_append,qa7,if_pos ⟨rfl,hin.1,by omega⟩,Ag hjc];rfl
    ·rw[if_neg hin];obtain⟨s',q1,q2,q3⟩:=hc j hj;refine⟨s',?_,q2,q3.mono hw (λ_ h=>h) hh⟩;rw[Mem.get_append,qa7,if_neg (by omega),q1];rfl
  ·exact(qg hg).elim
 ·rename_i id sz i c;obtain⟨e,he,hg⟩:=q2u hg;split at hg
  ·rename_i s' xs;obtain⟨hb,hg⟩:=q15 hg;simp only[Ai]at hb;obtain⟨hsz0,hlen⟩:=hb;have hlen':=Aw hlen;obtain⟨hv,rfl,hi,hn⟩:=hs.qbj he rfl;have hvec:=h.head id _ he;exact storeElem hT h he hn hi hlen' hr hdst (λw' hw'=>run _ _ w' hv hw') hg
  ·exact(qg hg).elim
 ·exact(qg hg).elim
where
 storeElem {t:TypeId} {ti:TyI} {inf:TypeInfo} {d:TypeDesc} {z:Value} (hT:TyOk E.P t ti inf d z) (h:Rel X M a w γ S) {id sz i c:Nat} {xs:List FV} (he:hdOf M id=some (.vec sz xs)) (hn:(γ id).nil=false) (hi:i<xs.length)
   {r:SV} {y:Operand} (hlen:r.cells.length=ti.size) (hr:SRep w S γ (hdOf M) r (a.eval y)) (hdst:o.dst=none)
   (run:∀w',(storeVar t ⟨(γ id).blk,(γ id).off+(i*sz+c),none⟩ (a.eval y)).run E.P w=.ok () w'->(execOp a.eval o).run E.P w=.ok .skip w')
   (hg:Gets (bif Nat.beq c 0&&Nat.beq ti.size sz then frz r λy us=>bif apart1 id us then .ret ((.head id,.vec sz (xs.set i y))::us)else .fail
     else bif Nat.beq ti.size 1&&Nat.ble (c+1) sz&&!ti.agg then frz1 r λy us=>bif apart1 id us then .ret ((.head id,.vec sz (setC xs i c y))::us)else .fail else .fail) M us):Goal E.P X M o a w us:=by
  have both:∀(fz:List (Key×Ent)) (x':FV),qv M fz->apart1 id fz=true->us=(.head id,.vec sz (xs.set i x'))::fz->El sz x' ->
    (∀S',(∀b,S b->S' b)->Rel X (fz++M) a w γ S'->(a.eval y).cells.size=ti.size/\(∀u∈(a.eval y).cells.toList,u.oneCell'=true)/\c+ti.size<=sz /\
     ∀(j:Nat) (e:FV),x'.cells[j]?=some e->if c<=j/\j<c+ti.size then ∃u,(a.eval y).cells[j-c]?=some u/\FRep w S' e u else ∃x0,xs[i]?=some x0/\x0.cells[j]?=some e)->Goal E.P X M o a w us:=by
   intro fz x' hfz hap hus hx' hall;subst hus;obtain⟨S',k1,k2,hR⟩:=h.q8h hfz;obtain⟨a1,a2,a3,a4⟩:=hall S' k1 hR;have hap':hdOf (fz++M) id=some (.vec sz xs):=by
    rcases hfz.get (.head id)with⟨q,_⟩ | ⟨id',s0,xs0,q1,q2,q3⟩
    ·rw[hdOf,q];exact he
    ·cases q1;exfalso;have:∀(l:List (Key×Ent)),apart1 id l=true->qv M l->Mem.get (.head id) (l++M)=some (.vec sz xs):=by
      intro l
      induction l with
      |nil=>intro _ _;exact he
      |cons p l ih =>
       intro h1 h2;obtain⟨i',s1,x1,rfl,_⟩:=h2 _ AJ;simp only[apart1,Ai,Cm]at h1;rw[Al,Mem.qj,if_neg]
       ·exact ih h1.2 h2.tail
       ·intro hk;cases hk;have:=h1.1;simp at this
     rw[this fz hap hfz]at q2;cases q2
   have own:=hR.own id _ hap' hn;have ho:=hR.head id _ hap';obtain⟨hcap,ho⟩:=ho;rw[if_neg (by simp[hn])]at ho;obtain⟨vals,te,hb,hsize,hrow⟩:=ho;have hin:(i+1)*sz<=(γ id).cap*sz:=AT _ (by omega);have hin':i*sz+sz<=(γ id).cap*sz:=by rwa[AU,Ca]at hin
   have hrun:=qld hT (w:=w) (b:=(γ id).blk) (p:=(γ id).off+(i*sz+c)) (v:=a.eval y) (cur:=vals) a1 hb (by omega) a2;refine .skip (γ':=γ) (S':=S') (run _ hrun) ?_;rw[hdst];have hM:q3z id (fz++M) ((.head id,.vec sz (xs.set i x'))::(fz++M)) :=
    ⟨λi' hi'=>by rw[hdOf,hdOf,Mem.qj,if_neg (by simpa using hi')],λi' j hi'=>by rw[Mem.qj,if_neg (by simp)],λt=>by rw[Mem.qj,if_neg (by simp)]⟩
   have hw:=hR.toHRel.q8e (But.setRow w (γ id).blk (vals.toList.take ((γ id).off+(i*sz+c))++(a.eval y).cells.toList++vals.toList.drop ((γ id).off+(i*sz+c)+ti.size)).toArray) own.2.1;refine hR.change (M':=(.head id,.vec sz (xs.set i x'))::(fz++M)) (e':=.vec sz (xs.set i x')) hM hap' hn (by rw[hdOf,Mem.qj,if_pos rfl]) ⟨by simp[Ent.row],rfl,by simp⟩ (But.setRow _ _ _) (λhh=>⟨by simpa using hcap,?_⟩) hn;rw[if_neg (by simp[hn])];refine⟨_,te,setRow_heap w _ vals _ te _ hb,by simp;omega,λx hx=>?_,λi' j x e h1 h2=>?_⟩
   ·rcases Dt hx with hx | rfl
    ·exact hrow.1 x hx
    ·exact hx'
   ·rw[q5c (setRow_heap w _ vals _ te _ hb),Ds];have hsp:=qg9 vals.toList ((γ id).off+(i*sz+c)) (a.eval y).cells.toList (by simp[a1];omega) ((γ id).off+(i'*sz+j));simp only[Bz,a1]at hsp;rw[hsp];have old:∀x0,xs[i']?=some x0->x0.cells[j]?=some e->¬ ((γ id).off+(i*sz+c)<=(γ id).off+(i'*sz+j)/\(γ id).off+(i'*sz+j)<(γ id).off+(i*sz+c)+ti.size) ->
      ∃v,(if(γ id).off+(i*sz+c)<=(γ id).off+(i'*sz+j)/\(γ id).off+(i'*sz+j)<(γ id).off+(i*sz+c)+ti.size then(a.eval y).cells.toList[(γ id).off+(i'*sz+j)-((γ id).off+(i*sz+c))]? else vals.toList[(γ id).off+(i'*sz+j)]?)=some v/\FRep (w.setRow (γ id).blk (vals.toList.take ((γ id).off+(i*sz+c))++(a.eval y).cells.toList++vals.toList.drop ((γ id).off+(i*sz+c)+ti.size)).toArray) S' e v:=by
     intro x0 q1 q2 q3;rw[if_neg q3];obtain⟨v,q4,q5⟩:=hrow.2 i' j x0 e q1 q2;rw[q5c hb]at q4;exact⟨v,by simpa using q4,q5.mono hw (λ_ h=>h)⟩
    have hj:j<sz:=by
     have hx0:x.cells.length=sz:=by
      rcases Dt (AQ h1)with hx | rfl
      ·exact(hrow.1 x hx).1
      ·exact hx'.1
     have:=(Am.1 h2).1;omega
    by_cases hii:i'=i
    ·subst hii;rw[Fc hi]at h1;cases h1;have:=a4 j e h2;by_cases hin2:c<=j/\j<c+ti.size
     ·rw[if_pos hin2]at this;obtain⟨u,q1,q2⟩:=this;rw[if_pos (by omega)];exact⟨u,by rw[show(γ id).off+(i'*sz+j)-((γ id).off+(i'*sz+c))=j-c by omega];simpa using q1,q2.mono hw (λ_ h=>h)⟩
     ·rw[if_neg hin2]at this;obtain⟨x0,q1,q2⟩:=this;exact old x0 q1 q2 (by omega)
    ·rw[Fd (BR hii)]at h1;refine old x h1 h2 ?_;rcases EL hii with hlt | hgt
     ·have:=AT sz (show i'+1<=i by omega);rw[AU,Ca]at this;omega
     ·have:=AT sz (show i+1<=i' by omega);rw[AU,Ca]at this;omega
  cases hc1:(Nat.beq c 0&&Nat.beq ti.size sz)with
  |true =>
   rw[hc1]at hg;simp only[Ac]at hg;simp only[Ai]at hc1;have hc0:=Aw hc1.1;have hts:=Aw hc1.2;obtain⟨x',fz,hfz,hg,hl,hrep⟩:=gets_frz (X:=X) (a:=a) (w:=w) (γ:=γ) hg;obtain⟨hap,hg⟩:=q15 hg;refine both fz x' hfz hap (q2s hg) ⟨by rw[hl.1,hlen,hts],hl.2⟩ λS' hS hR=>?_;obtain⟨q1,q2⟩:=hrep S' _ hR (hr.mono (λ_ _=>rfl) hS hfz.hdLe);have hxl:x'.cells.length=sz:=by rw[hl.1,hlen,hts]
   refine⟨by rw[q1,hlen],λu hu=>?_,by omega,λj e hj=>?_⟩
   ·obtain⟨j,hj⟩:=Bu.1 hu;have hjl:=(Am.1 hj).1;simp only[Bz]at hjl;obtain⟨u',r1,r2,r3⟩:=q2 j x'.cells[j] (Ag (by omega));rw[BA,r1]at hj;cases hj;exact r3
   ·have hjl:=(Am.1 hj).1;rw[if_pos ⟨by omega,by omega⟩];obtain⟨u',r1,r2,r3⟩:=q2 j e hj;exact⟨u',by rw[hc0];exact r1,r2⟩
  |false =>
   rw[hc1]at hg;simp only[Ab]at hg;obtain⟨hb2,hg⟩:=q15 hg;simp only[Ai,Cm]at hb2;obtain⟨⟨hts,hcs⟩,hagg⟩:=hb2;have hts':=Aw hts;have hcs':=BB hcs;obtain⟨x0,fz,hfz,hok,hg⟩:=qdi hg;obtain⟨hap,hg⟩:=q15 hg;obtain⟨xi,hxi⟩:∃xi,xs[i]?=some xi:=⟨_,Ag hi⟩;have hvec:=(h.head id _ he).2;rw[if_neg (by simp[hn])]at hvec;obtain⟨_,_,_,_,hrow⟩:=hvec;have hxiE:=hrow.1 xi (AQ hxi);have hxil:=hxiE.1;obtain⟨cs,rfl⟩:∃cs,xi=.agg cs:=by
    cases xi with
    |agg cs=>exact⟨cs,rfl⟩
    |_ =>
     simp only[FV.cells,Aq,Be]at hxil;have:c=0:=by omega
     subst this;rw[hts',<- hxil]at hc1;simp at hc1
   have hset:setC xs i c x0=xs.set i (.agg (cs.set c x0)):=by simp[setC,hxi]
   rw[hset]at hg;have hcl:cs.length=sz:=hxil
   refine both fz (.agg (cs.set c x0)) hfz hap (q2s hg) ⟨by simpa[FV.cells]using hcl,λe he=>by
     rcases Dt he with he | rfl
     ·exact hxiE.2 e he
     ·exact hok.flat⟩ λS' hS hR=>?_
   obtain⟨q1,q2,q3⟩:=hok.rep hfz hR (hr.mono (λ_ _=>rfl) hS hfz.hdLe);have hvc:(a.eval y).cells=#[a.eval y]:=by
    generalize a.eval y=v at q3;cases v <;> first | rfl | simp[Value.oneCell']at q3
   rw[hvc,hts'];refine⟨rfl,λu hu=>by simp at hu;subst hu;exact q3,hcs',λj e hj=>?_⟩;simp only[FV.cells]at hj;by_cases hjc:j=c
   ·subst hjc;rw[if_pos ⟨by omega,by omega⟩];rw[Fc (by omega)]at hj;cases hj;exact⟨_,by simp,q1⟩
   ·rw[if_neg (by omega)];rw[Fd (BR hjc)]at hj;exact⟨_,hxi,hj⟩
end
end
section
section
variable {E:Env} {call:FuncId->List FV->Res} {X:Cx} {M:Mem} {a:Act} {w:World} {γ:Nat->Gh} {S:Nat->Prop} {us:List (Key×Ent)} {o:Oper}
theorem But.alloc(w:World)(ob:Obj):But w.heap.size w (w.alloc ob):=But.new w ob
theorem qd6(w:World)(ob:Obj):(w.alloc ob).heap[w.heap.size]?=some ob:=heap_alloc_new w ob
theorem Rel.newObj(h:Rel X M a w γ S){d:Nat}(hd:X.Dst d)(hf:hdOf M d=none){cs:List SV}{vals:Array Value}{t:TypeId}(hl:vals.size=cs.length)
  (hc:∀(j:Nat) (c:SV),cs[j]?=some c->c.flat=true/\SRep w S γ (hdOf M) c (vals.getD j undef)) :
  Rel X (((.slot d,.sv (.ptr d 0))::(.head d,.obj cs.length)::wrCells d 0 cs)++M) (a.put (some d) (.pointer (some ⟨w.heap.size,0,none⟩))) (w.alloc (.cells vals t (0,0))) (Gh.upd γ d ⟨w.heap.size,0,0,false⟩) S:=by
 have hM:q3z d M (((.head d,.obj cs.length)::wrCells d 0 cs)++M):=by
  refine⟨λi hi=>?_,λi j hi=>?_,λt=>?_⟩
  ·rw[hdOf,hdOf,Al,Mem.qj,if_neg (by simpa using hi),Mem.get_append,get_wrH];rfl
  ·rw[Al,Mem.qj,if_neg (by simp),Mem.get_append,qa7,if_neg (λq=>hi q.1)];rfl
  ·rw[Al,Mem.qj,if_neg (by simp),Mem.get_append,get_wrS];rfl
 have he:hdOf (((.head d,.obj cs.length)::wrCells d 0 cs)++M) d=some (.obj cs.length):=by rw[hdOf,Al,Mem.qj,if_pos rfl]
 have hb:But w.heap.size w (w.alloc (.cells vals t (0,0))):=But.alloc w _;have hS:¬ S w.heap.size:=λhq=>EO _ (h.keep.bound _ hq)
 have hR:=h.gain (g:=⟨w.heap.size,0,0,false⟩) hf hM he hb hS (λi e h1 h2 hq=>by have:=(h.own i e h1 h2).1;simp only at hq;omega) (by simp) (.inr h.keep.size) (λhh=>by
  have hw:=h.toHRel.q8e hb hS;refine⟨by rw[Gh.q2x],vals,t,by rw[Gh.q2x];exact qd6 w _,hl,λj hj=>?_⟩;obtain⟨q1,q2⟩:=hc j cs[j] (Ag hj)
  exact⟨cs[j],by rw[Al,Mem.qj,if_neg (by simp),Mem.get_append,qa7,if_pos ⟨rfl,BL _,by omega⟩,Ec,Ag hj];rfl,q1,q2.mono hw (λ_ h=>h) hh⟩)
 have:=hR.put hd (s:=.ptr d 0) (v:=.pointer (some ⟨w.heap.size,0,none⟩)) (by
  have:=SRep.ptr (w:=w.alloc (.cells vals t (0,0))) (S:=S) (γ:=Gh.upd γ d ⟨w.heap.size,0,0,false⟩) (off:=0) he rfl
  rwa[Gh.q2x]at this)
 exact this
theorem Rel.newVec(h:Rel X M a w γ S){d:Nat}(hd:X.Dst d)(hf:hdOf M d=none){sz cap:Nat}{xs:List FV}{vals:Array Value}{t:TypeId}(hc:xs.length<=cap)(hl:cap*sz<=vals.size)
  (hsz:∀x,x∈xs->El sz x) (hr:∀(i j:Nat) (x c:FV),xs[i]?=some x->x.cells[j]?=some c->∃v,vals[i*sz+j]?=some v/\FRep w S c v) :
  Rel X ((.slot d,.sv (.sl d none))::(.head d,.vec sz xs)::M) (a.put (some d) (.slice (some ⟨w.heap.size,0,none⟩) xs.length cap)) (w.alloc (.cells vals t (0,0))) (Gh.upd γ d ⟨w.heap.size,0,cap,false⟩) S:=by
 have hM:q3z d M ((.head d,.vec sz xs)::M):=by
  refine⟨λi hi=>?_,λi j hi=>?_,λt=>?_⟩
  ·rw[hdOf,hdOf,Mem.qj,if_neg (by simpa using hi)]
  ·rw[Mem.qj,if_neg (by simp)]
  ·rw[Mem.qj,if_neg (by simp)]
 have he:hdOf ((.head d,.vec sz xs)::M) d=some (.vec sz xs):=by rw[hdOf,Mem.qj,if_pos rfl]
 have hb:But w.heap.size w (w.alloc (.cells vals t (0,0))):=But.alloc w _;have hS:¬ S w.heap.size:=λhq=>EO _ (h.keep.bound _ hq)
 have hR:=h.gain (g:=⟨w.heap.size,0,cap,false⟩) hf hM he hb hS (λi e h1 h2 hq=>by have:=(h.own i e h1 h2).1;simp only at hq;omega) (by simp) (.inr h.keep.size) (λhh=>by
  have hw:=h.toHRel.q8e hb hS;refine⟨by rw[Gh.q2x];exact hc,?_⟩;rw[Gh.q2x,if_neg (by simp)];refine⟨vals,t,qd6 w _,by simpa using hl,hsz,λi j x c h1 h2=>?_⟩;obtain⟨v,h3,h4⟩:=hr i j x c h1 h2
  exact⟨v,by rw[q5c (qd6 w _),AG];exact h3,h4.mono hw (λ_ h=>h)⟩)
 exact hR.put hd (s:=.sl d none) (by
  have:=SRep.sl (w:=w.alloc (.cells vals t (0,0))) (S:=S) (γ:=Gh.upd γ d ⟨w.heap.size,0,cap,false⟩) he (sz:=sz) (len:=xs.length) rfl
  rwa[Gh.q2x]at this)
theorem qiq{t:TypeId}{ti:TyI}{inf:TypeInfo}{d:TypeDesc}{z:Value}(hT:TyOk E.P t ti inf d z)(hd:Nat->Option Ent) :
  z.cells.size=ti.q7g.length/\∀(j:Nat) (c:SV),ti.q7g[j]?=some c->c.flat=true/\SRep w S γ hd c (z.cells.getD j undef):=by
 have hl:=qa8 hT.q28;refine⟨by simp[TyI.q7g];simpa using hl,λj c hj=>?_⟩;simp only[TyI.q7g,Br,BY]at hj;obtain⟨k,hk,rfl⟩:=hj;obtain⟨v,h1,h2,h3,h4⟩:=q95 (w:=w) (S:=S) hT.q28 j k hk;have hq:z.cells.getD j undef=v:=by rw[Az,<- BA,h1,Bg]
 rw[hq];refine⟨?_,h3 _ _⟩;cases k with
 |raw u =>
  have h5:=h2;simp only[CK.zero]at h5;cases h5;simpa[CK.zeroS,SV.flat,FV.flat,CK.zero]using h4
 |_=>rfl
theorem sim_alloc{t:TypeId}(hE:q14 E)(h:Rel X M a w γ S)(hd:∀d,o.dst=some d->X.Dst d)(hop:o.op=.alloc t)(hg0:Gets (rtOp E call o) M us):Goal E.P X M o a w us:=by
 simp only[rtOp,hop]at hg0;obtain⟨ti,inf,dd,z,hT,hg⟩:=q3l hE hg0;clear hg0;split at hg
 ·rename_i d hdst;obtain⟨hf,hg⟩:=q7h hg;obtain rfl:=q2s hg;obtain⟨h1,h2⟩:=qiq (w:=w) (S:=S) (γ:=γ) hT (hdOf M);have hlen:ti.q7g.length=ti.size:=by simp[TyI.q7g,hT.len]
  have hr:(execOp a.eval o).run E.P w=.ok (.value (.pointer (some ⟨w.heap.size,0,none⟩))) (w.alloc (.cells z.cells t (0,0))):=by
   simp[execOp,hop,Instr.alloc,hT.runZ,newVar,newRow]
  have:=h.newObj (hd d hdst) hf (t:=t) h1 h2;rw[hlen]at this;exact .value hr (by rw[hdst];exact this)
 ·exact(qg hg).elim
theorem sim_box{t:TypeId}{x:Operand}(hE:q14 E)(h:Rel X M a w γ S)(hd:∀d,o.dst=some d->X.Dst d)(hop:o.op=.box t x)(hg0:Gets (rtOp E call o) M us):Goal E.P X M o a w us:=by
 simp only[rtOp,hop]at hg0;obtain⟨ti,inf,dd,z,hT,hg1⟩:=q3l hE hg0;obtain⟨s,hs,hg⟩:=q1j h hg1;clear hg0 hg1;split at hg
 ·rename_i d hdst;obtain⟨hb,hg⟩:=q15 hg;simp only[Ai]at hb;obtain⟨hlv,hg⟩:=qd7 hg;obtain⟨hf,hg⟩:=q7h hg;obtain rfl:=q2s hg;obtain⟨c1,c2,c3⟩:=qf9 hs hb.2 hlv;have hlen:=Aw hb.1;have hr:(execOp a.eval o).run E.P w=.ok (.value (.pointer (some ⟨w.heap.size,0,none⟩))) (w.alloc (.cells (a.eval x).cells t (0,0))):=by
   simp[execOp,hop,Instr.box,newVar,newRow]
  have:=h.newObj (hd d hdst) hf (t:=t) c1 c2;rw[hlen]at this;exact .value hr (by rw[hdst];exact this)
 ·exact(qg hg).elim
end
end
section
def RowA(w:World)(S:Nat->Prop)(cur:Array Value)(sz:Nat)(xs:List FV):Prop :=
 (∀x,x∈xs->El sz x)/\∀(i j:Nat) (x c:FV),xs[i]?=some x->x.cells[j]?=some c->∃v,cur[i*sz+j]?=some v/\FRep w S c v
theorem qge(off k:Nat):∀(l:List Value) (n:Nat) (cur:Array Value),off+n+l.length<=cur.size ->
  ((l.zipIdx n).foldl (λcs p=>cs.setIfInBounds (off+p.2) p.1) cur)[k]?=if off+n<=k/\k<off+n+l.length then l[k-(off+n)]? else cur[k]?
 |[],n,cur,h=>by simp;omega
 |v::l,n,cur,h=>by
  rw[List.zipIdx_cons,Bf,qge off k l (n+1) _ (by simp at h ⊢;omega)];simp only[Aq]at h ⊢;by_cases h1:k=off+n
  ·subst h1;rw[if_neg (by omega),if_pos (by omega),DQ (by omega)];simp
  ·rw[Dx (BR h1)];by_cases h2:off+(n+1)<=k/\k<off+(n+1)+l.length
   ·rw[if_pos h2,if_pos (by omega)];obtain⟨q,rfl⟩:∃q,k=off+(n+1)+q:=⟨k-(off+(n+1)),by omega⟩;rw[show off+(n+1)+q-(off+(n+1))=q by omega,show off+(n+1)+q-(off+n)=q+1 by omega,AP]
   ·rw[if_neg h2,if_neg (by omega)]
theorem qds(off:Nat):∀(l:List Value) (n:Nat) (cur:Array Value),((l.zipIdx n).foldl (λcs p=>cs.setIfInBounds (off+p.2) p.1) cur).size=cur.size
 |[],n,cur=>rfl
 |v::l,n,cur=>by rw[List.zipIdx_cons,Bf,qds off l (n+1)];simp
theorem qk9(place:Nat->Option (Nat×Nat))(cur:Array Value)(i:Nat)(v:Value)(rest:List (Nat×Value)){off size:Nat}(hp:place i=some (off,size))(h1:v.cells.size=size)(h2:off+size<=cur.size) :
  Instr.fill place cur ((i,v)::rest)=Instr.fill place ((v.cells.toList.zipIdx 0).foldl (λcs p=>cs.setIfInBounds (off+p.2) p.1) cur) rest:=by
 have h3:¬ (v.cells.size≠size||off+v.cells.size>cur.size)=true:=by simp[h1];omega
 simp only[Instr.fill,hp];rw[if_neg h3];congr 1;rw[<- EE,Array.toList_zipIdx]
theorem RowA.fill{w:World}{S:Nat->Prop}{sz:Nat}:∀ {ps:List (Nat×Value)} {fs:List (Nat×FV)} {cur:Array Value} {xs:List FV},RowA w S cur sz xs->xs.length*sz<=cur.size->fs.length=ps.length ->
  (∀(k:Nat) (p:Nat×Value),ps[k]?=some p->∃x,fs[k]?=some (p.1,x)/\p.1<xs.length/\El sz x/\p.2.cells.size=sz/\∀(j:Nat) (c:FV),x.cells[j]?=some c->∃u,p.2.cells[j]?=some u/\FRep w S c u) ->
  ∃cur',Instr.fill (λi=>some (i*sz,sz)) cur ps=some cur'/\cur'.size=cur.size/\RowA w S cur' sz (fs.foldl (λl p=>l.set p.1 p.2) xs)
 |[],[],cur,xs,h,hl,hlen,hp=>⟨cur,rfl,rfl,h⟩
 |[],_::_,cur,xs,h,hl,hlen,hp=>by simp at hlen
 |p::ps,[],cur,xs,h,hl,hlen,hp=>by simp at hlen
 |p::ps,f::fs,cur,xs,h,hl,hlen,hp=>by
  obtain⟨x,h1,h2,h3,h4,h5⟩:=hp 0 p rfl;simp only[Aj,AH]at h1;subst h1;have hin:=AT sz (show p.1+1<=xs.length by omega);rw[AU,Ca]at hin;have hstep:=qk9 (λi=>some (i*sz,sz)) cur p.1 p.2 ps rfl h4 (by omega);have hR:RowA w S ((p.2.cells.toList.zipIdx 0).foldl (λcs q=>cs.setIfInBounds (p.1*sz+q.2) q.1) cur) sz (xs.set p.1 x):=by
   refine⟨λy hy=>?_,λi j y c hi hj=>?_⟩
   ·rcases Dt hy with hy | rfl
    ·exact h.1 y hy
    ·exact h3
   ·rw[qge (p.1*sz) (i*sz+j) p.2.cells.toList 0 cur (by simp[h4];omega)];simp only[Ay,Bz,h4];have hjl:j<sz:=by
     have:y.cells.length=sz:=by
      rcases Dt (AQ hi)with hy | rfl
      ·exact(h.1 y hy).1
      ·exact h3.1
     have:=(Am.1 hj).1;omega
    by_cases hip:i=p.1
    ·subst hip;rw[Fc h2]at hi;cases hi;rw[if_pos (by omega)];obtain⟨u,q1,q2⟩:=h5 j c hj;exact⟨u,by rw[show p.1*sz+j-p.1*sz=j by omega];simpa using q1,q2⟩
    ·rw[Fd (BR hip)]at hi;rw[if_neg]
     ·exact h.2 i j y c hi hj
     ·rcases EL hip with hlt | hgt
      ·have:=AT sz (show i+1<=p.1 by omega);rw[AU,Ca]at this;omega
      ·have:=AT sz (show p.1+1<=i by omega);rw[AU,Ca]at this;omega
  obtain⟨cur',q1,q2,q3⟩:=RowA.fill (ps:=ps) (fs:=fs) hR (by rw[qds];simpa using hl) (by simpa using hlen) (λk q hq=>by
   obtain⟨y,r1,r2,r3,r4,r5⟩:=hp (k+1) q (by simpa using hq)
   exact⟨y,by simpa using r1,by simpa using r2,r3,r4,r5⟩)
  exact⟨cur',by rw[hstep];exact q1,by rw[q2,qds],q3⟩
section
variable {E:Env} {call:FuncId->List FV->Res} {X:Cx} {M:Mem} {a:Act} {w:World} {γ:Nat->Gh} {S:Nat->Prop} {us:List (Key×Ent)} {o:Oper}
theorem TyOk.zeroCells{P:Program}{t:TypeId}{i:TyI}{inf:TypeInfo}{d:TypeDesc}{z:Value}(hT:TyOk P t i inf d z):i.q1e.cells=i.q28:=by
 unfold TyI.q1e;cases ha:i.agg with
 |true=>rfl
 |false =>
  obtain⟨k,hk,_⟩:=hT.one ha;simp only[TyI.q28,hk,AS,BG,Ab,List.headD_cons];cases k <;> rfl
theorem RowA.q28{t:TypeId}{i:TyI}{inf:TypeInfo}{d:TypeDesc}{z:Value}(hT:TyOk E.P t i inf d z)(n m:Nat)(h:n*i.size<=m) :
  RowA w S (madeCells z.cells m) i.size (List.replicate n i.q1e):=by
 have hz:z.cells.size=i.size:=by have:=qa8 hT.q28;simpa[hT.len]using this
 refine⟨λx hx=>?_,λq j x c hq hj=>?_⟩
 ·rw[(ER.1 hx).2];refine⟨by rw[hT.zeroCells,TyI.q28,Aa,hT.len],λc hc=>?_⟩;rw[hT.zeroCells]at hc;obtain⟨j,hj⟩:=Bu.1 hc;simp only[TyI.q28,Br,BY]at hj;obtain⟨k,hk,rfl⟩:=hj;obtain⟨v,r1,r2,r3,r4⟩:=q95 (w:=w) (S:=S) hT.q28 j k hk;cases k with
  |raw u=>simp only[CK.zero]at r2;cases r2;exact r4
  |_=>rfl
 ·have hqn:q<n:=by have:=(Am.1 hq).1;simpa using this
  have hx:x=i.q1e:=(ER.1 (AQ hq)).2;subst hx;rw[hT.zeroCells]at hj;simp only[TyI.q28,Br,BY]at hj;obtain⟨k,hk,rfl⟩:=hj;obtain⟨v,r1,r2,r3,r4⟩:=q95 (w:=w) (S:=S) hT.q28 j k hk;have hjl:j<i.size:=by have:=(Am.1 hk).1;rw[hT.len]at this;exact this
  have hin:=AT i.size (show q+1<=n by omega);rw[AU,Ca]at hin;refine⟨v,?_,r2⟩;have hlt:q*i.size+j<m:=by omega
  have hmod:(q*i.size+j)%z.cells.size=j:=by rw[hz,AB,DV];exact AL hjl
  have hv:z.cells[j]?=some v:=by rw[<- BA];exact r1
  have hr:(Array.range m)[q*i.size+j]?=some (q*i.size+j):=by simp[hlt]
  simp only[madeCells,Array.getElem?_map,hr,AE,hmod,getElem!_def,hv]
theorem qgf(h:Rel X M a w γ S):∀ {ps:List (Nat×Operand)} {f:List (Nat×SV)->RT},Gets (opdP ps f) M us ->
  ∃ss,ss.length=ps.length/\(∀(k:Nat) (p:Nat×Operand),ps[k]?=some p->∃s,ss[k]?=some (p.1,s)/\SRep w S γ (hdOf M) s (a.eval p.2))/\Gets (f ss) M us
 |[],f,hg=>⟨[],rfl,λk p hk=>by simp at hk,hg⟩
 |(i,x)::ps,f,hg=>by
  unfold opdP at hg;obtain⟨s,hs,hg⟩:=q1j h hg;obtain⟨ss,h1,h2,hg⟩:=qgf h hg;refine⟨(i,s)::ss,by simp[h1],λk p hk=>?_,hg⟩;cases k with
  |zero=>simp at hk;subst hk;exact⟨s,rfl,hs⟩
  |succ k=>simpa using h2 k p (by simpa using hk)
theorem qv.qa6{fz:List (Key×Ent)}(h:qv M fz){d:Nat}(hd:hdOf M d=none):hdOf (fz++M) d=none:=by
 rcases h.get (.head d)with⟨q,_⟩ | ⟨id,s,xs,q1,q2,q3⟩
 ·rw[hdOf,q];exact hd
 ·cases q1;rcases q3 with q3 | q3 <;> rw[hd]at q3 <;> cases q3
def q4l(M:Mem)(us:List (Key×Ent))(s:SV)(x:FV):Prop :=
 (∃cs xs,s=.agg cs/\x=.agg xs/\xs.length=cs.length/\∀(j:Nat) (c:SV),cs[j]?=some c->∃y,xs[j]?=some y/\FzOk M us c y)\/(s.cells=[s]/\FzOk M us s x)
theorem q4l.mono{us vs:List (Key×Ent)}(hs:∀p,p∈us->p∈vs){s:SV}{x:FV}(h:q4l M us s x):q4l M vs s x:=by
 rcases h with⟨cs,xs,h1,h2,h3,h4⟩ | ⟨h1,h2⟩
 ·exact .inl ⟨cs,xs,h1,h2,h3,λj c hj=>let ⟨y,q1,q2⟩:=h4 j c hj;⟨y,q1,q2.mono hs⟩⟩
 ·exact .inr ⟨h1,h2.mono hs⟩
theorem q4l.len{us:List (Key×Ent)}{s:SV}{x:FV}(h:q4l M us s x):x.cells.length=s.cells.length:=by
 rcases h with⟨cs,xs,rfl,rfl,h3,h4⟩ | ⟨h1,h2⟩
 ·exact h3
 ·rw[h1];cases h2 with
  |fv h=>cases x <;> first | rfl | simp[FV.flat]at h
  |_=>rfl
theorem q4l.flat{us:List (Key×Ent)}{s:SV}{x:FV}(h:q4l M us s x):∀c,c∈x.cells->c.flat=true:=by
 rcases h with⟨cs,xs,rfl,rfl,h3,h4⟩ | ⟨h1,h2⟩
 ·intro c hc;obtain⟨j,hj⟩:=Bu.1 hc;simp only[FV.cells]at hj;have hj':=(Am.1 hj).1;obtain⟨x',q1,q2⟩:=h4 j cs[j] (Ag (by omega));rw[hj]at q1;cases q1;exact q2.flat
 ·have hxc:x.cells=[x]:=by cases h2 with
   |fv h=>cases x <;> first | rfl | simp[FV.flat]at h
   |_=>rfl
  intro c hc;rw[hxc]at hc;simp at hc;subst hc;exact h2.flat
theorem q4l.rep{us:List (Key×Ent)}{s:SV}{x:FV}(hz:q4l M us s x)(hf:qv M us)(h:Rel X (us++M) a w γ S){v:Value}(hv:SRep w S γ (hdOf (us++M)) s v) :
  v.cells.size=s.cells.length/\∀(j:Nat) (c:FV),x.cells[j]?=some c->∃u,v.cells[j]?=some u/\FRep w S c u/\u.oneCell'=true:=by
 rcases hz with⟨cs,xs,rfl,rfl,h3,h4⟩ | ⟨h1,h2⟩
 ·obtain⟨vs,rfl,hl,hr⟩:=hv.qaf;refine⟨hl,λj c hj=>?_⟩;simp only[FV.cells]at hj;have hj':=(Am.1 hj).1;have hjs:j<cs.length:=by omega
  obtain⟨x',q1,q2⟩:=h4 j cs[j] (Ag hjs);rw[hj]at q1;cases q1;have:=q2.rep hf h (hr j cs[j] (Ag hjs));have hv':vs[j]?=some (vs.getD j undef):=by
   rw[Az,Bo (by omega),Bg]
  exact⟨_,hv',this.1,this.2.2⟩
 ·have hxc:x.cells=[x]:=by cases h2 with
   |fv h=>cases x <;> first | rfl | simp[FV.flat]at h
   |_=>rfl
  obtain⟨q1,q2,q3⟩:=h2.rep hf h hv;have hvc:v.cells=#[v]:=by cases v <;> first | rfl | simp[Value.oneCell']at q3
  rw[hvc,h1,hxc];refine⟨rfl,λj c hj=>?_⟩;cases j with
  |zero=>simp at hj;subst hj;exact⟨v,rfl,q1,q3⟩
  |succ j=>simp at hj
theorem qdn{s:SV}{f:FV->List (Key×Ent)->RT}(hg:Gets (frz s f) M us):∃x fz,qv M fz/\q4l M fz s x/\Gets (f x fz) M us:=by
 unfold frz at hg;split at hg
 ·obtain⟨xs,fz,h1,h2,h3,hg⟩:=qft hg;exact⟨_,fz,h1,.inl ⟨_,xs,rfl,rfl,h2,h3⟩,hg⟩
 ·rename_i hs;obtain⟨x,fz,h1,h2,hg⟩:=qdi hg;exact⟨x,fz,h1,.inr ⟨by cases s <;> first | rfl | exact absurd rfl (hs _),h2⟩,hg⟩
theorem qka{n sz:Nat}:∀ {ps:List (Nat×SV)} {f:List (Nat×FV)->List (Key×Ent)->RT},Gets (frzParts n sz ps f) M us ->
  ∃xs fz,qv M fz/\xs.length=ps.length/\Gets (f xs fz) M us/\∀(k:Nat) (i:Nat) (s:SV),ps[k]?=some (i,s)->∃x,xs[k]?=some (i,x)/\i<n/\s.cells.length=sz/\q4l M fz s x
 |[],f,hg=>⟨[],[],qv.nil M,rfl,hg,λk i s h=>by simp at h⟩
 |(i,s)::ps,f,hg=>by
  unfold frzParts at hg;obtain⟨x,fz,hfz,hok,hg⟩:=qdn hg;obtain⟨hb,hg⟩:=q15 hg;simp only[Ai]at hb;have hsz:=Aw hb.1;have hin:=BB hb.2;obtain⟨xs,fz',h1,h2,hg,h4⟩:=qka hg;refine⟨(i,x)::xs,fz++fz',hfz.app h1,by simp[h2],hg,λk i' s' hk=>?_⟩;cases k with
  |zero =>
   simp only[Aj,AH,Bw]at hk;obtain⟨rfl,rfl⟩:=hk;exact⟨x,rfl,hin,hsz,hok.mono λp hp=>Ef _ hp⟩
  |succ k =>
   obtain⟨x',r1,r2,r3,r4⟩:=h4 k i' s' (by simpa using hk);exact⟨x',by simpa using r1,r2,r3,r4.mono λp hp=>DE _ hp⟩
theorem qqz{t:TypeId}{n:Nat}{parts:Array (Nat×Operand)}(hE:q14 E)(h:Rel X M a w γ S)(hd:∀d,o.dst=some d->X.Dst d)(hop:o.op=.buildSlice t n parts)(hg0:Gets (rtOp E call o) M us):Goal E.P X M o a w us:=by
 simp only[rtOp,hop]at hg0;obtain⟨el,te,inf,dd,z,hu,hT,hg1⟩:=q54 hE hg0;obtain⟨ss,l1,hss,hg2⟩:=qgf h hg1;obtain⟨xs,fz,hfz,l2,hg,hxs⟩:=qka hg2;clear hg0 hg1 hg2;split at hg
 ·rename_i d hdst;obtain⟨hb,hg⟩:=q15 hg;simp only[Ai]at hb;have hsmall:=BB hb.1;have hone:=BB hb.2;obtain⟨hf,hg⟩:=q7h hg;obtain rfl:=q2s hg;obtain⟨S',k1,k2,hR⟩:=h.q8h hfz;have hz:z.cells.size=te.size:=by have:=qa8 hT.q28;simpa[hT.len]using this
  have hbase:RowA w S' (madeCells z.cells (n*te.size)) te.size (List.replicate n te.q1e):=RowA.q28 (E:=E) hT n _ (Ak _);have hvals:∀(k:Nat) (p:Nat×Value),(parts.map λp=>(p.1,a.eval p.2)).toList[k]?=some p->∃x,xs[k]?=some (p.1,x)/\p.1<(List.replicate n te.q1e).length/\El te.size x/\p.2.cells.size=te.size /\
    ∀(j:Nat) (c:FV),x.cells[j]?=some c->∃u,p.2.cells[j]?=some u/\FRep w S' c u:=by
   intro k p hk;simp only[DH,Br,BY]at hk;obtain⟨q,hq,rfl⟩:=hk;obtain⟨s,r1,r2⟩:=hss k q hq;obtain⟨x,r3,r4,r5,r6⟩:=hxs k q.1 s r1;obtain⟨r7,r8⟩:=r6.rep hfz hR (r2.mono (λ_ _=>rfl) k1 hfz.hdLe);exact⟨x,r3,by simpa using r4,⟨by rw[r6.len,r5],r6.flat⟩,by rw[r7,r5],λj c hj=>let ⟨u,q1,q2,_⟩:=r8 j c hj;⟨u,q1,q2⟩⟩
  obtain⟨cur,c1,c2,c3⟩:=RowA.fill hbase (by simp[size_madeCells]) (by simp[l1,l2]) hvals;rw[size_madeCells]at c2;have hlen:(qb n te.q1e xs).length=n:=by
   unfold qb;have:∀(ps:List (Nat×FV)) (l:List FV),(ps.foldl (λl p=>l.set p.1 p.2) l).length=l.length:=by
    intro ps
    induction ps with
    |nil=>intro l;rfl
    |cons p ps ih=>intro l;rw[Bf,ih];simp
   rw[this];simp
  have hr:(execOp a.eval o).run E.P w=.ok (.value (.slice (some ⟨w.heap.size,0,none⟩) n n)) (w.alloc (.cells cur el (0,0))):=by
   have hrun:(Instr.buildSlice t n (parts.map λp=>(p.1,a.eval p.2))).run E.P w=.ok (.slice (some ⟨w.heap.size,0,none⟩) n n) (w.alloc (.cells cur el (0,0))):=by
    by_cases h0:n*te.size=0
    ·have hn0:n=0:=by rcases Nat.mul_eq_zero.1 h0 with h0 | h0 <;> omega
     subst hn0;have c1':Instr.fill (λi=>some (i*te.size,te.size)) #[] (parts.map λp=>(p.1,a.eval p.2)).toList=some cur:=by
      have e:madeCells z.cells (0*te.size)=#[]:=by simp[madeCells]
      rw[<- e];exact c1
     rw[DH]at c1';simp[Instr.buildSlice,run_underlying hu,hT.runS,c1',newRow,Array.range_zero']
    ·exact run_buildSlice w t el n _ cur inf z hu hT.info hT.zero (by rw[hT.size];omega) (by rw[hT.size];exact h0) (by rw[hT.size];exact c1)
   simp[execOp,hop,hrun]
  have:=hR.newVec (hd d hdst) (hfz.qa6 hf) (sz:=te.size) (cap:=n) (xs:=qb n te.q1e xs) (vals:=cur) (t:=el) (by omega) (by rw[c2];exact Ak _) c3.1 c3.2;rw[hlen]at this;exact .value hr (by rw[hdst];exact this)
 ·exact(qg hg).elim
theorem qr0{bytes:Nat}{c:Int}{n:Nat}(h:q1p bytes c=some n):0<=c/\bytes*c<=140737488355328/\c<=140737488355328/\n=c.toNat:=by
 unfold q1p at h;split at h
 ·rename_i q;cases h;exact⟨q.1,q.2.1,q.2.2,rfl⟩
 ·simp at h
theorem qr1{t:TypeId}{x y:Operand}(hE:q14 E)(h:Rel X M a w γ S)(hd:∀d,o.dst=some d->X.Dst d)(hop:o.op=.makeSlice t x y)(hg0:Gets (rtOp E call o) M us):Goal E.P X M o a w us:=by
 simp only[rtOp,hop]at hg0;obtain⟨el,te,inf,dd,z,hu,hT,hg1⟩:=q54 hE hg0;obtain⟨s,hs,hg2⟩:=q1j h hg1;obtain⟨r,hr,hg⟩:=q1j h hg2;clear hg0 hg1 hg2;split at hg
 ·rename_i k1 n k2 c d hdst;have e1:=hs.q22;have e2:=hr.q22;obtain⟨hb,hg⟩:=q15 hg;have hone:=BB hb;obtain⟨c',hc,hg⟩:=q94 hg;obtain⟨n',hn,hg⟩:=q94 hg;obtain⟨q1,q2,q3,rfl⟩:=qr0 hc;obtain⟨p1,p2,rfl,p4⟩:=qf1 hn;obtain⟨hf,hg⟩:=q7h hg;obtain rfl:=q2s hg;have hrun:=run_make (P:=E.P) w t el inf z hu hT.info hT.zero k1 k2 n c p1 (by omega) (by rw[hT.bytes];omega) (by omega);rw[hT.size]at hrun;have hrow:RowA w S (madeCells z.cells (c.toNat*te.size)) te.size (List.replicate n.toNat te.q1e):=RowA.q28 (E:=E) hT n.toNat _ (AT _ (by omega));have:=h.newVec (hd d hdst) hf (sz:=te.size) (cap:=c.toNat) (xs:=List.replicate n.toNat te.q1e) (t:=el) (by simp;omega) (by rw[size_madeCells];exact Ak _) hrow.1 hrow.2;rw[BJ]at this;refine .value (v:=.slice (some ⟨w.heap.size,0,none⟩) n.toNat c.toNat) ?_ (by rw[hdst];exact this);simp[execOp,hop,e1,e2,hrun]
 ·exact(qg hg).elim
end
end
section
theorem qn0{P:Program}(w:World)(t ty e te:TypeId)(i:TypeInfo)(ht:P.underlying t=some (.slice e))(hi:P.info? e=some i)
  (g off sLen sCap:Nat) (cur:Array Value) (hg:w.heap[g]?=some (.cells cur te (0,0)))
  (a:Addr) (m c:Nat) (news:List Value) (hl:news.length=m*i.size) (hnews:∀(j:Nat) (u:Value),news[j]?=some u->w.cell? (a.add j)=some u) (h1:∀u∈news,u.oneCell'=true)
  (hroom:sLen+m<=sCap) (hfit:off+sLen*i.size+news.length<=cur.size) :
  (Builtin.append_ #[t,t] ty #[.slice (some ⟨g,off,none⟩) sLen sCap,.slice (some a) m c]).run P w =
   .ok (.slice (some ⟨g,off,none⟩) (sLen+m) sCap) (w.setRow g (cur.toList.take (off+sLen*i.size)++news++cur.toList.drop (off+sLen*i.size+news.length)).toArray):=by
 have hf:=run_firstCells_some (P:=P) w i.size m a m c news hl hnews;have hst:=run_storeCells_at P g (off+sLen*i.size) te news 0 cur w hg (by simpa using hfit) h1;simp only[Ay]at hst;simp[Builtin.append_,run_underlying ht,Go.sizeOf,typeInfo,hi,Builtin.lenOf,hroom,hf,q53,hst]
section
variable {E:Env} {call:FuncId->List FV->Res} {X:Cx} {M:Mem} {a:Act} {w:World} {γ:Nat->Gh} {S:Nat->Prop} {us:List (Key×Ent)} {o:Oper}
theorem qi2(h:Rel X M a w γ S){sz:Nat}{s:SV}{v:Value}(hs:SRep w S γ (hdOf M) s v){f:List FV->RT}(hg:Gets (seq sz s f) M us) :
  ∃xs aa cap b p,v=.slice aa xs.length cap/\xs.length<=cap/\(xs≠[]->aa=some ⟨b,p,none⟩)/\Row w S b p sz xs/\Gets (f xs) M us:=by
 unfold seq at hg;split at hg
 ·have e:=hs.q8o;exact⟨[],none,0,0,0,e,Ak _,λh=>absurd rfl h,⟨λx hx=>by simp at hx,λi j x c hi=>by simp at hi⟩,hg⟩
 ·rename_i x;split at hg
  ·rename_i xs hx;unfold lstOf at hx;split at hx
   ·rename_i s0 ys;have hrep:=hs.qce;obtain⟨aa,cap,b,p,h1,h2,h3,h4⟩:=FRep.q30.1 hrep;cases hb:Nat.beq s0 sz with
    |true =>
     rw[hb]at hx;simp only[Ac,AH]at hx;subst hx;have:=Aw hb;subst this;exact⟨ys,aa,cap,b,p,h1,h2,λhne=>(h3 hne).1,h4,hg⟩
    |false =>
     rw[hb]at hx;simp only[Ab]at hx;split at hx
     ·cases hx;exact⟨[],aa,cap,b,p,h1,h2,λhne=>absurd rfl hne,⟨λx hx=>by simp at hx,λi j x c hi=>by simp at hi⟩,hg⟩
     ·simp at hx
   ·simp at hx
  ·exact(qg hg).elim
 ·rename_i id view;obtain⟨e,he,hg⟩:=q2u hg;have go:∀s0 xs,e.row=some (s0,xs.length)->(e=.vec s0 xs\/e=.frz s0 xs)->Gets (bif Nat.beq s0 sz then(match(generalizing:=false) view with | none=>f xs | some (o,n)=>f ((xs.drop o).take n))else .fail) M us ->
    ∃xs aa cap b p,v=.slice aa xs.length cap/\xs.length<=cap/\(xs≠[]->aa=some ⟨b,p,none⟩)/\Row w S b p sz xs/\Gets (f xs) M us:=by
   clear hg;intro s0 xs hrow hcase hg0;obtain⟨hb,hgA⟩:=q15 hg0;clear hg0;have:=Aw hb;subst this;have ho:=h.head id e he;have hcap:xs.length<=(γ id).cap:=len_cap h he hrow;have hR:(γ id).nil=true->xs=[]:=λhn=>by
    rcases hcase with rfl | rfl <;> (have:=ho.2;rw[if_pos hn]at this;exact this.1)
   have hrowR:(γ id).nil=false->Row w S (γ id).blk (γ id).off s0 xs:=λhn=>by
    rcases hcase with rfl | rfl
    ·have:=ho.2;rw[if_neg (by simp[hn])]at this;obtain⟨_,_,_,_,q⟩:=this;exact q
    ·have:=ho.2;rw[if_neg (by simp[hn])]at this;exact this.2
   have empty:Row w S 0 0 s0 ([]:List FV):=⟨λx hx=>by simp at hx,λi j x c hi=>by simp at hi⟩;rcases hs.q5u he hrow with⟨rfl,rfl⟩ | ⟨o',n,aa,c,rfl,rfl,h1,h2,h3,h4⟩
   ·by_cases hn:(γ id).nil=true
    ·have:=hR hn;subst this;exact⟨[],_,_,0,0,rfl,hcap,λh=>absurd rfl h,empty,hgA⟩
    ·have hn':(γ id).nil=false:=by simpa using hn
     exact⟨xs,_,_,(γ id).blk,(γ id).off,rfl,hcap,λ_=>by simp[Gh.base,hn'],hrowR hn',hgA⟩
   ·have hlen:((xs.drop o').take n).length=n:=by simp;omega
    by_cases h0:n=0
    ·subst h0;simp only[CP]at hgA;exact⟨[],aa,c,0,0,rfl,BL _,λh=>absurd rfl h,empty,hgA⟩
    ·obtain⟨hn,rfl⟩:=h3 h0;exact⟨(xs.drop o').take n,_,c,(γ id).blk,(γ id).off+o'*s0,by rw[hlen],by rw[hlen];exact h2,λ_=>rfl,(hrowR hn).sub' o' n,hgA⟩
  split at hg
  ·exact go _ _ rfl (.inl rfl) hg
  ·exact go _ _ rfl (.inr rfl) hg
  ·exact(qg hg).elim
 ·exact(qg hg).elim
def q34(w:World)(b p sz n:Nat):List Value:=(List.range (n*sz)).map λk=>(cellAt w b (p+k)).getD undef
theorem qeg{b p sz n k:Nat}(hk:k<n*sz):(q34 w b p sz n)[k]?=some ((cellAt w b (p+k)).getD undef):=by
 simp[q34,hk]
theorem FRep.one{x:FV}{v:Value}(h:FRep w S x v)(hx:x.flat=true):v.oneCell'=true:=by
 cases h <;> first | rfl | exact hx | (simp[FV.flat]at hx)
theorem qn1{P:Program}{w:World}{S:Nat->Prop}{src dst el:TypeId}(hs:P.underlying src=some (.slice el))(he:P.underlying el=some (.int .u8))(hd:P.underlying dst=some .string)
  {xs:List FV} {aa:Option Addr} {cap b p:Nat} {str:ByteArray} (haa:xs≠[]->aa=some ⟨b,p,none⟩) (hrow:Row w S b p 1 xs) (hb:bytesO xs=some str) :
  (Go.convert src dst (.slice aa xs.length cap)).run P w=.ok (.string str) w:=by
 unfold bytesO at hb;split at hb
 ·rename_i hall;simp only[AH]at hb;have hns:∃ns:List Int,xs=ns.map (FV.int .u8):=by
   clear hb haa hrow
   induction xs with
   |nil=>exact⟨[],rfl⟩
   |cons x xs ih =>
    simp only[Bk,Ai]at hall;obtain⟨ns,rfl⟩:=ih hall.2;have h1:=hall.1;split at h1
    ·rename_i n;exact⟨n::ns,rfl⟩
    ·cases h1
  obtain⟨ns,rfl⟩:=hns;have hstr:str=strOfNums ns:=by
   rw[<- hb,Ct];rfl
  subst hstr;cases ns with
  |nil =>
   cases aa with
   |none=>exact(run_convert_bytes_nil w src el hs he 0 cap dst hd).trans rfl
   |some ad =>
    have hl:(loadCells ad 0).run P w=.ok (([]:List Int).map (Value.int .u8)).toArray w:=by simpa using run_loadCells_list (P:=P) w ad [] (λj v h=>by simp at h)
    have:=run_bytesToString w ad 0 cap [] hl;rw[BG,Be,run_convert_bytes_string w src dst el _ 0 cap hs he hd,this];rfl
  |cons n ns =>
   rw[haa (by simp)];refine run_convert_bytes_arg w src el hs he b p _ cap (n::ns) (by simp) (λi hi=>?_) dst hd;have hi':i<(n::ns).length:=by simpa using hi
   obtain⟨v,h1,h2⟩:=hrow.2 i 0 (.int .u8 ((n::ns)[i])) (.int .u8 ((n::ns)[i])) (by rw[Br,Ag hi'];rfl) rfl;have e:v=.int .u8 ((n::ns)[i]):=by cases h2;rfl
   subst e;rw[show p+(i*1+0)=p+i by omega]at h1;rw[AD,Ag hi'];exact h1
 ·cases hb
theorem qn2{src dst:TypeId}{x:Operand}(hE:q14 E)(h:Rel X M a w γ S)(hd:∀d,o.dst=some d->X.Dst d)(hop:o.op=.convert src dst x)(hg0:Gets (rtOp E call o) M us):Goal E.P X M o a w us:=by
 simp only[rtOp,hop]at hg0;obtain⟨s,hs,hg1⟩:=q1j h hg0;obtain⟨i1,inf1,d1,z1,hT1,hg2⟩:=q3l hE hg1;obtain⟨i2,inf2,d2,z2,hT2,hg⟩:=q3l hE hg2;clear hg0 hg1 hg2;split at hg
 ·rename_i k n k' ha hck;have hc:=hT2.scalar ha;rw[hck]at hc;have:d2=.int k':=by cases d2 <;> simp[ck1,q72]at hc;rw[hc]
  subst this;have e:=hs.q22;refine .q1i (v:=.int _ _) ?_ (q1c h hd (.fv (.int _ _)) hg);simp[execOp,hop,e,Go.convert,hT1.runU,hT2.runU,Conv.intToInt]
 ·rename_i n ha hck;have hc:=hT2.scalar ha;rw[hck]at hc;have:d2=.string:=by cases d2 <;> simp[ck1]at hc;rfl
  subst this;have e:=hs.q5s;refine .q1i (v:=.string _) ?_ (q1c h hd (.fv (.str _)) hg);simp[execOp,hop,e,Go.convert,hT1.runU,hT2.runU]
 ·have hck:i2.ck=[.str]:=by assumption
  have hc:=hT2.scalar (by assumption);rw[hck]at hc;have:d2=.string:=by cases d2 <;> simp[ck1]at hc;rfl
  subst this;obtain⟨el,te,inf,dd,z,hu,hT,hG⟩:=q54 hE hg;split at hG
  ·rename_i hag hek;have hc:=hT.scalar hag;rw[hek]at hc;have:dd=.int .u8:=by cases dd <;> simp[ck1,q72]at hc;rw[hc]
   subst this;obtain⟨xs,aa,cap,b,p,e,hcap,haa,hrow,hG2⟩:=qi2 h hs hG;obtain⟨str,hstr,hG3⟩:=qeh hG2;refine .q1i (v:=.string str) ?_ (q1c h hd (.fv (.str str)) hG3);have hrun:=qn1 (src:=src) (dst:=dst) hu hT.und hT2.und haa hrow hstr (cap:=cap);rw[<- e]at hrun;simp[execOp,hop,hrun]
  ·exact(qg hG).elim
 ·exact(qg hg).elim
end
end
end Rf
