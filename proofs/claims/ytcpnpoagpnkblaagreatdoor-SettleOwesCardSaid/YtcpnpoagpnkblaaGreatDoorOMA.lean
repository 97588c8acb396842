/- Texts of this work put together, their blanks and comments taken out: RfTab, Rf1, Rf2, Rf3, Rf4. -/
import GoSem.Claims
import Derived.Calls
import Derived.Orders
import Derived.Laws.Sem
import Derived.Below
import Derived.MapKept
import Derived.Laws.Cells
import Derived.Laws.CopyRow
set_option linter.unusedVariables false
set_option linter.unusedSimpArgs false
namespace Rf
open Go
def pow10s:List Int:=[1,10,100,1000,10000,100000,1000000,10000000,100000000,1000000000,10000000000,100000000000,1000000000000,10000000000000,100000000000000,1000000000000000,10000000000000000,100000000000000000,1000000000000000000,10000000000000000000]
def tabs:List (Nat×Array Value):=[(0,(pow10s.map λz=>Value.int .u64 z).toArray)]
end Rf
section
namespace Rf
abbrev w6:=Go.IntKind.wrap .i64
abbrev Aa:=@List.length_map
abbrev Ab:=@cond_false
abbrev Ac:=@cond_true
theorem Ad{p:Prop}[Decidable p](h:¬p:=by omega):decide p=false:=decide_eq_false h
abbrev Ae:=@Option.bind_some
theorem Af{p:Prop}[Decidable p](h:p:=by omega):decide p=true:=decide_eq_true h
abbrev Ag:=@List.getElem?_eq_getElem
abbrev Ah:=@List.getElem_mem
abbrev Ai:=@Bool.and_eq_true
abbrev Aj:=@List.getElem?_cons_zero
abbrev Ak:=@Nat.le_refl
abbrev Al:=@List.cons_append
abbrev Am:=@Bool.not_true
abbrev Ao:=@List.getElem?_eq_some_iff
abbrev Ap:=@List.append_assoc
abbrev Aq:=@List.length_cons
abbrev Ar:=@List.mem_cons
abbrev As:=@decide_eq_true_eq
abbrev At:=@List.nil_append
abbrev Au:=@List.all_eq_true
abbrev Av:=@List.drop_zero
abbrev Aw:=@Nat.eq_of_beq_eq_true
abbrev Ax:=@Nat.pow_succ
abbrev Ay:=@Nat.add_zero
abbrev Az:=@Array.getD_eq_getD_getElem?
abbrev AA:=@List.mem_cons_of_mem
abbrev AB:=@Bool.true_and
abbrev AC:=@Nat.mul_comm
abbrev AD:=@Option.map_some
abbrev AE:=@Nat.mul_add
abbrev AF:=@List.mem_cons_self
abbrev AG:=@List.getD_eq_getElem?_getD
abbrev AH:=@Option.some.injEq
abbrev AI:=@Bool.eq_false_iff
abbrev AJ:=@Nat.zero_add
abbrev AK:=@Nat.mod_eq_of_lt
abbrev AL:=@Nat.mod_lt
abbrev AM:=@List.append_nil
abbrev AN:=@List.drop_of_length_le
abbrev AO:=@List.getElem?_cons_succ
abbrev AP:=@Nat.lt_of_lt_of_le
abbrev AQ:=@List.map_cons
abbrev AR:=@Nat.mul_le_mul_right
abbrev AS:=@List.mem_of_getElem?
abbrev AT:=@Nat.add_mul
abbrev AU:=@Nat.mul_assoc
abbrev AV:=@Bool.not_false
abbrev AW:=@if_true
abbrev AX:=@Nat.pow_le_pow_right
abbrev AY:=@List.drop_eq_getElem_cons
abbrev AZ:=@Nat.le_trans
abbrev Ba:=@List.cons.injEq
abbrev Bb:=@List.length_append
abbrev Bc:=@List.map_append
abbrev Be:=@List.foldl_cons
abbrev Bf:=@List.length_nil
abbrev Bg:=@Option.getD_some
abbrev Bh:=@Int.toNat_natCast
abbrev Bi:=@beq_self_eq_true
abbrev Bj:=@List.take_length
abbrev Bk:=@List.all_cons
abbrev Bl:=@Nat.add_assoc
abbrev Bm:=@Bool.eq_iff_iff
abbrev Bn:=@beq_eq_false_iff_ne
abbrev Bo:=@Nat.add_comm
abbrev Bp:=@Array.getElem?_eq_getElem
abbrev Bq:=@List.getElem?_map
abbrev Br:=@Bool.false_eq_true
abbrev Bs:=@Nat.eq_zero_or_pos
abbrev Bt:=@List.mem_iff_getElem?
abbrev Bu:=@beq_iff_eq
abbrev Bv:=@Prod.mk.injEq
abbrev Bw:=@Array.length_toList
abbrev Bx:=@Nat.pow_pos
abbrev By:=@Array.getElem?_toList
abbrev Bz:=@Nat.le_of_ble_eq_true
abbrev BA:=@Int.natAbs_neg
abbrev BB:=@Nat.mul_le_mul_left
abbrev BC:=@List.length_take
abbrev BD:=@List.mem_map
abbrev BE:=@List.map_nil
abbrev BF:=@List.eq_nil_of_length_eq_zero
abbrev BG:=@Nat.lt_of_le_of_lt
abbrev BH:=@if_false
abbrev BI:=@Nat.div_lt_of_lt_mul
abbrev BJ:=@Nat.div_lt_iff_lt_mul
abbrev BK:=@List.range'_succ
abbrev BL:=@List.mem_append
abbrev BM:=@List.singleton_append
abbrev BN:=@List.mem_singleton
abbrev BO:=@Ne.symm
abbrev BP:=@Nat.zero_le
abbrev BQ:=@Eq.trans
abbrev BR:=@Bool.false_or
abbrev BS:=@Classical.byContradiction
abbrev BT:=@List.mem_range'_1
abbrev BU:=@decide_eq_decide
abbrev BW:=@List.take_append_drop
abbrev BX:=@Option.map_eq_some_iff
abbrev BY:=@dif_pos
abbrev BZ:=@Nat.pow_add
abbrev Ca:=@List.length_range
abbrev Cb:=@Rat.not_le
abbrev Cc:=@List.replicate_succ
abbrev Cd:=@Int.natAbs_mul
abbrev Ce:=@Nat.mul_succ
abbrev Cf:=@Nat.one_mul
abbrev Cg:=@dif_neg
abbrev Ch:=@Bool.not_eq_true'
abbrev Ci:=@Rat.not_lt
abbrev Cj:=@Nat.mul_zero
abbrev Ck:=@Bool.false_and
abbrev Cl:=@Int.sign_eq_one_of_pos
abbrev Cm:=@List.length_singleton
abbrev Cn:=@Nat.sub_self
abbrev Co:=@List.replicate_zero
abbrev Cp:=@Rat.num_divInt_den
abbrev Cq:=@List.getElem?_append
abbrev Cr:=@Nat.min_le_left
abbrev Cs:=@Nat.mod_add_div
abbrev Ct:=@List.mem_range
abbrev Cu:=@List.map_map
abbrev Cv:=@Nat.div_lt_self
abbrev Cw:=@Nat.mul_le_mul
abbrev Cy:=@List.mem_of_mem_drop
abbrev Cz:=@Nat.gcd_comm
abbrev CA:=@List.getElem?_drop
abbrev CB:=@Rat.intCast_add
abbrev CC:=@Int.natAbs_natCast
abbrev CD:=@Option.bind_eq_some_iff
abbrev CE:=@Int.natCast_add
abbrev CF:=@Bool.and_false
abbrev CG:=@bne_iff_ne
abbrev CH:=@Bool.and_true
abbrev CI:=@Option.none_or
abbrev CJ:=@List.eq_of_mem_replicate
abbrev CL:=@List.mem_of_mem_take
abbrev CM:=@List.getElem?_zip_eq_some
abbrev CN:=@List.getElem?_take_of_lt
abbrev CO:=@Int.sign_eq_neg_one_of_neg
abbrev CP:=@List.drop_length
abbrev CQ:=@List.map_congr_left
abbrev CR:=@List.take_zero
abbrev CS:=@Rat.intCast_neg
abbrev CT:=@List.getElem?_append_right
abbrev CU:=@List.take_of_length_le
abbrev CV:=@Nat.div_eq_of_lt
abbrev CW:=@Nat.le_of_lt
abbrev CX:=@true_and
abbrev CY:=@not_true_eq_false
abbrev CZ:=@Rat.intCast_lt_intCast
abbrev Da:=@List.getElem?_append_left
abbrev Db:=@List.length_pos_iff
abbrev Dc:=@Bool.true_or
abbrev Dd:=@List.length_replicate
abbrev De:=@Array.ext'
abbrev Df:=@Int.lt_or_le
abbrev Dh:=@Nat.succ_mul
abbrev Di:=@Nat.ble_eq_true_of_le
abbrev Dj:=@Array.getElem?_eq_none
abbrev Dk:=@List.length_eq_zero_iff
abbrev Dl:=@Nat.le_of_not_lt
abbrev Dm:=@List.eq_nil_or_concat
abbrev Dn:=@Nat.lt_or_ge
abbrev Do:=@Nat.zero_mul
abbrev Dp:=@List.getElem?_take
abbrev Dq:=@bne_self_eq_false
abbrev Dr:=@Rat.intCast_le_intCast
abbrev Ds:=@Nat.div_le_self
abbrev Dt:=@UInt8.toNat_inj
abbrev Du:=@List.mem_iff_getElem
abbrev Dv:=@BitVec.ofInt_natCast
abbrev Dw:=@BitVec.ofNat_toNat
abbrev Dx:=@BitVec.setWidth_eq
abbrev Dy:=@List.getElem?_toArray
abbrev Dz:=@List.mem_or_eq_of_mem_set
abbrev DA:=@Nat.add_mul_mod_self_left
abbrev DB:=@List.all_append
abbrev DC:=@List.take_add_one
abbrev DD:=@Array.getElem?_setIfInBounds_ne
abbrev DE:=@List.getElem?_eq_none
abbrev DF:=@List.length_drop
abbrev DG:=@List.replicate_succ'
abbrev DH:=@Nat.div_add_mod
abbrev DI:=@decide_true
abbrev DJ:=@Decidable.byContradiction
abbrev DK:=@Rat.intCast_mul
abbrev DL:=@Rat.num_nonneg
abbrev DM:=@List.mem_append_right
abbrev DN:=@List.pairwise_cons
abbrev DO:=@List.any_cons
abbrev DP:=@Array.toList_map
abbrev DQ:=@Rat.mul_nonneg
abbrev DR:=@Bool.not_not
abbrev DS:=@Nat.mul_one
abbrev DT:=@List.head?_cons
abbrev DU:=@Nat.mul_left_comm
abbrev DV:=@List.takeWhile_cons
abbrev DW:=@List.dropWhile_cons
abbrev DX:=@Bool.or_eq_true
abbrev DY:=@List.any_eq_false
abbrev DZ:=@Array.getElem?_setIfInBounds_self_of_lt
abbrev Ea:=@List.take_append_of_le_length
abbrev Eb:=@List.replicate_append_replicate
abbrev Ec:=@Nat.gcd_zero_right
abbrev Ed:=@Nat.gcd_rec
abbrev Ee:=@Nat.mul_add_mod
abbrev Ef:=@List.countP_pos_iff
abbrev Eg:=@false_and
abbrev Eh:=@and_true
abbrev Ei:=@not_false_eq_true
abbrev Ej:=@Rat.mul_lt_mul_right
abbrev Ek:=@Int.tmod_lt_of_pos
abbrev Em:=@Nat.sub_zero
abbrev Eo:=@Option.some.inj
abbrev Ep:=@BitVec.msb_eq_decide
abbrev Er:=@List.mem_append_left
abbrev Es:=@Nat.le_mul_of_pos_right
abbrev Et:=@List.map_id
abbrev Eu:=@List.getElem_map
abbrev Ew:=@List.findIdx?_eq_some_iff_getElem
abbrev Ex:=@List.getElem_of_mem
abbrev Ey:=@List.any_eq_not_all_not
abbrev Ez:=@List.drop_left'
abbrev EA:=@List.mapM_cons
abbrev EB:=@List.reverse_append
abbrev EC:=@Nat.pow_zero
abbrev ED:=@Int.tmod_eq_emod_of_nonneg
abbrev EE:=@Nat.pow_le_pow_left
abbrev EF:=@List.tail_cons
abbrev EG:=@Nat.div_mul_le_self
abbrev EH:=@Nat.one_lt_two_pow
abbrev EI:=@Option.isSome_iff_exists
abbrev EJ:=@List.concat_eq_append
abbrev EK:=@Nat.add_sub_cancel
abbrev EL:=@Nat.mul_lt_mul_of_pos_left
abbrev EM:=@List.all_nil
abbrev EN:=@Array.foldl_toList
abbrev EO:=@List.mem_filter
abbrev EP:=@List.getElem?_range
abbrev EQ:=@List.map_replicate
abbrev ER:=@Nat.mul_add_div
abbrev ES:=@Nat.lt_or_gt_of_ne
abbrev ET:=@Nat.eq_or_lt_of_le
abbrev EU:=@Int.neg_tmod
abbrev EV:=@Nat.lt_irrefl
abbrev EW:=@Nat.le_max_left
abbrev EX:=@Int.lt_or_gt_of_ne
abbrev EY:=@Int.add_assoc
abbrev EZ:=@Nat.min_eq_left
abbrev Fa:=@Nat.add_le_add_left
abbrev Fb:=@List.getElem?_set
abbrev Fc:=@Array.getElem?_eq_some_iff
abbrev Fd:=@Array.getElem?_append_left
abbrev Fe:=@List.not_lt
abbrev Ff:=@List.lt_trans
abbrev Fg:=@getElem!_pos
abbrev Fh:=@List.getElem_toArray
abbrev Fi:=@List.take_succ_eq_append_getElem
abbrev Fj:=@List.mergeSort_perm
abbrev Fk:=@of_decide_eq_false
abbrev Fl:=@List.getElem?_set_self
abbrev Fm:=@List.getElem?_set_ne
abbrev Fo:=@Rat.le_refl
abbrev Fq:=@decide_eq_false_iff_not
abbrev Fr:=@List.findIdx?_eq_none_iff
abbrev Fs:=@List.take_left'
abbrev Ft:=@List.drop_eq_nil_of_le
abbrev Fu:=@List.length_set
abbrev Fv:=@List.take_succ_cons
abbrev Fw:=@Nat.mul_lt_mul_of_pos_right
abbrev Fx:=@List.length_reverse
abbrev Fy:=@List.reverse_cons
abbrev Fz:=@Nat.two_pow_pos
abbrev FA:=@Nat.add_mul_div_left
abbrev FB:=@Nat.add_mod_right
abbrev FC:=@List.mem_reverse
abbrev FD:=@Array.getElem?_push_lt
abbrev FE:=@Array.all_eq_true_iff_forall_mem
abbrev FF:=@Nat.le_div_iff_mul_le
abbrev FG:=@List.set_append_right
abbrev FH:=@Int.ediv_emod_unique
abbrev FI:=@Int.sign_eq_zero_iff_zero
abbrev FJ:=@Nat.gcd_pos_of_pos_right
abbrev FK:=@Array.getElem?_replicate
abbrev FL:=@List.length_filter_le
abbrev FM:=@Option.isNone_iff_eq_none
abbrev FN:=@Array.toArray_toList
abbrev FO:=@List.head?_eq_getElem?
abbrev FP:=@Int.tdiv_eq_ediv_of_dvd
abbrev FQ:=@Nat.lt_of_mul_lt_mul_right
abbrev FR:=@Nat.le_mul_of_pos_left
abbrev FS:=@List.reverse_reverse
abbrev FT:=@List.length_eq_one_iff
open Go
inductive FV where
 |int (k:IntKind) (n:Int)
 |bool (b:Bool)
 |str (s:ByteArray)
 |raw (v:Value)
 |list (sz:Nat) (xs:List FV)
 |agg (cs:List FV)
 |ref (sz:Nat) (x:FV)
 deriving Inhabited
def FV.cells:FV->List FV
 |.agg cs=>cs
 |v=>[v]
def FV.flat:FV->Bool
 |.agg _=>false
 |.raw v=>v.oneCell'
 |_=>true
inductive SV where
 |fv (v:FV)
 |ptr (id off:Nat)
 |ept (id sz i c:Nat)
 |sl (id:Nat) (view:Option (Nat×Nat))
 |fp (sz:Nat) (xs:List FV) (i c:Nat)
 |mp (id:Nat)
 |clo (fn:Fn) (first caps:List SV)
 |agg (cs:List SV)
 |tup (vs:List SV)
 |nilS
 |dead
 |gone
 deriving Inhabited
inductive Key where
 |slot (t:Nat)
 |head (id:Nat)
 |cell (id off:Nat)
 deriving DecidableEq
def Key.beq:Key->Key->Bool
 |.slot a,.slot b=>Nat.beq a b
 |.head a,.head b=>Nat.beq a b
 |.cell a o,.cell b p=>Nat.beq a b&&Nat.beq o p
 |_,_=>false
inductive CK where
 |int (k:IntKind)
 |bool
 |str
 |lst (sz:Nat)
 |raw (v:Value)
inductive Ent where
 |sv (v:SV)
 |vec (sz:Nat) (xs:List FV)
 |frz (sz:Nat) (xs:List FV)
 |obj (n:Nat)
 |mapH (kag:Bool) (ks:List CK) (z:FV)
 |map (es:List FV) (clk:Int)
 |tomb
 deriving Inhabited
def Ent.row:Ent->Option (Nat×Nat)
 |.vec sz xs | .frz sz xs=>some (sz,xs.length)
 |_=>none
abbrev Mem:=List (Key×Ent)
def Mem.get(k:Key):Mem->Option Ent
 |[]=>none
 |(k',e)::r=>bif k.beq k' then some e else Mem.get k r
inductive RT:Type where
 |ret (us:List (Key×Ent))
 |fail
 |rd (k:Key) (f:Ent->RT)
 |fresh (id:Nat) (t:RT)
 |int (x:Option Int) (f:Int->RT)
 |nat (x:Option Nat) (f:Nat->RT)
 |boo (x:Option Bool) (f:Bool->RT)
 |str (x:Option ByteArray) (f:ByteArray->RT)
 |lst (x:Option (List FV)) (f:List FV->RT)
 |cnd (b:Bool) (t e:RT)
abbrev Res:=Option (List FV)
def RT.run(M:Mem):RT->List Key->(List (Key×Ent)->List Key->Res)->Res
 |.ret us,lg,K=>K us lg
 |.fail,_,_=>none
 |.rd k f,lg,K=>match M.get k with
  |some e=>(f e).run M (k::lg) K
  |none=>none
 |.fresh id t,lg,K=>match M.get (.head id)with
  |some _=>none
  |none=>t.run M (.head id::lg) K
 |.int x f,lg,K=>x.bind λn=>(f n).run M lg K
 |.nat x f,lg,K=>x.bind λn=>(f n).run M lg K
 |.boo x f,lg,K=>x.bind λn=>(f n).run M lg K
 |.str x f,lg,K=>x.bind λn=>(f n).run M lg K
 |.lst x f,lg,K=>x.bind λn=>(f n).run M lg K
 |.cnd b t e,lg,K=>cond b (t.run M lg K) (e.run M lg K)
def RT.get(M:Mem):RT->Option (List (Key×Ent)×List Key)
 |.ret us=>some (us,[])
 |.fail=>none
 |.rd k f=>match M.get k with
  |some e=>((f e).get M).map λr=>(r.1,k::r.2)
  |none=>none
 |.fresh id t=>match M.get (.head id)with
  |some _=>none
  |none=>(t.get M).map λr=>(r.1,.head id::r.2)
 |.int x f=>x.bind λn=>(f n).get M
 |.nat x f=>x.bind λn=>(f n).get M
 |.boo x f=>x.bind λn=>(f n).get M
 |.str x f=>x.bind λn=>(f n).get M
 |.lst x f=>x.bind λn=>(f n).get M
 |.cnd b t e=>cond b (t.get M) (e.get M)
structure TyI where
 size:Nat
 bytes:Nat
 agg:Bool
 ck:List CK
 elem:Nat
 flds:List (Nat×Nat)
 key:Nat:=0
def CK.zero:CK->FV
 |.int k=>.int k 0
 |.bool=>.bool false
 |.str=>.str ⟨#[]⟩
 |.lst sz=>.list sz []
 |.raw v=>.raw v
def TyI.q2c(t:TyI):List FV:=t.ck.map CK.zero
def TyI.q1g(t:TyI):FV:=bif t.agg then .agg t.q2c else(t.q2c.headD (.agg []))
def CK.zeroS:CK->SV
 |.lst _=>.nilS
 |k=>.fv k.zero
def TyI.q7o(t:TyI):List SV:=t.ck.map CK.zeroS
inductive Tok where
 |int (k:IntKind)
 |bool
 |str
 |lst (sz:Nat)
 |raw (v:Value)
 |skip
 |own (sz:Nat)
 |obj (k:Nat)
 |ref (j:Nat)
 |agg (k:Nat)
 |clo (fn:Fn) (k:Nat)
 |fn
 |fpt (sz:Nat)
 |mapt (kag:Bool) (ks:List CK) (z:FV)
structure FnI where
 tin:List Tok
 tout:List Tok
 ann:List (Nat×List Nat×List Tok)
structure Env where
 P:Program
 fc:Nat->Option Func
 ty:Nat->Option TyI
 fn:Nat->Option FnI
 ext:Nat->Option (List FV->Option (List FV))
def lookN{α:Type}(t:Nat):List (Nat×α)->Option α
 |[]=>none
 |(k,x)::r=>bif Nat.beq k t then some x else lookN t r
def at'(xs:List FV)(i c:Nat):Option FV:=(xs[i]?).bind λx=>x.cells[c]?
def asInt(k:IntKind):Option FV->Option Int
 |some (.int k' n)=>if k'=k then some n else none
 |_=>none
def asBool:Option FV->Option Bool
 |some (.bool b)=>some b
 |_=>none
def asStr:Option FV->Option ByteArray
 |some (.str s)=>some s
 |_=>none
def asLst(sz:Nat):Option FV->Option (List FV)
 |some (.list s xs)=>if s=sz then some xs else match xs with | []=>some [] | _=>none
 |_=>none
def asRef(sz:Nat):Option FV->Option (List FV)
 |some (.ref s x)=>if s=sz then some [x]else none
 |_=>none
def hd1(xs:List FV):FV:=xs.headD (.agg [])
def ix(i:Int)(n:Nat):Option Nat:=if 0<=i/\i<n then some i.toNat else none
def bd(i:Int)(n:Nat):Option Nat:=if 0<=i/\i<=n then some i.toNat else none
def q1r(bytes:Nat)(n:Int):Option Nat:=if 0<=n/\bytes*n<=140737488355328/\n<=140737488355328 then some n.toNat else none
def q2q(s:ByteArray)(i:Int):Option Int:=if 0<=i then(s[i.toNat]?).map λb=>(b.toNat:Int)else none
def bitI(op:BinOp)(k:IntKind)(x y:Int):Int :=
 let a:=BitVec.ofInt k.bits x
 let b:=BitVec.ofInt k.bits y
 k.wrap ((match op with | .and=>a &&& b | .or=>a ||| b | .xor=>a ^^^ b | _=>a &&& ~~~b).toNat)
def shI(left:Bool)(k:IntKind)(x y:Int):Int:=bif left then k.wrap (x*2^(min y.toNat k.bits))else x.fdiv (2^(min y.toNat k.bits))
def bytesO(xs:List FV):Option ByteArray:=if xs.all (λx=>match x with | .int .u8 _=>true | _=>false)=true then some ⟨(xs.map λx=>match x with | .int _ n=>UInt8.ofNat n.toNat | _=>0).toArray⟩ else none
def setC(xs:List FV)(i c:Nat)(v:FV):List FV :=
 match xs[i]? with
 |some (.agg cs)=>xs.set i (.agg (cs.set c v))
 |_=>xs.set i v
def keq1:FV->FV->Bool
 |.int _ a,.int _ b=>a==b
 |.bool a,.bool b=>a==b
 |.str a,.str b=>a.toList==b.toList
 |_,_=>false
def keqs:List FV->List FV->Bool
 |[],[]=>true
 |a::as,b::bs=>keq1 a b&&keqs as bs
 |_,_=>false
def keq(a b:FV):Bool:=keqs a.cells b.cells
def entKey:FV->FV
 |.agg [k,_,_]=>k
 |_=>.agg []
def q57:FV->FV
 |.agg [_,v,_]=>v
 |_=>.agg []
def entBorn:FV->Int
 |.agg [_,_,.int _ b]=>b
 |_=>0
def mhas(es:List FV)(k:FV):Bool:=es.any λe=>keq k (entKey e)
def mgetD:List FV->FV->FV->FV
 |[],_,z=>z
 |e::es,k,z=>bif keq k (entKey e)then q57 e else mgetD es k z
def mput:List FV->FV->FV->Int->List FV
 |[],k,v,c=>[.agg [k,v,.int .i64 c]]
 |e::es,k,v,c=>bif keq k (entKey e)then .agg [k,v,.int .i64 (entBorn e)]::es else e::mput es k v c
def mclk(es:List FV)(k:FV)(c:Int):Int:=bif mhas es k then c else c+1
def ment:List FV->FV->FV->Int->List FV
 |[],k,z,c=>[.agg [k,z,.int .i64 c]]
 |e::es,k,z,c=>bif keq k (entKey e)then .agg [k,q57 e,.int .i64 (entBorn e)]::es else e::ment es k z c
def mborn:List FV->FV->Int->Int
 |[],_,c=>c
 |e::es,k,c=>bif keq k (entKey e)then entBorn e else mborn es k c
def q5t(es:List FV)(b:Int):Bool:=es.any λe=>entBorn e==b
def msetB:List FV->Int->FV->List FV
 |[],_,_=>[]
 |e::es,b,v=>bif entBorn e==b then .agg [entKey e,v,.int .i64 (entBorn e)]::es else e::msetB es b v
def mdel:List FV->FV->List FV
 |[],_=>[]
 |e::es,k=>bif keq k (entKey e)then es else e::mdel es k
def kfit:CK->FV->Bool
 |.int .i8,.int .i8 _ | .int .i16,.int .i16 _ | .int .i32,.int .i32 _ | .int .i64,.int .i64 _ | .int .u8,.int .u8 _ | .int .u16,.int .u16 _ | .int .u32,.int .u32 _ | .int .u64,.int .u64 _=>true
 |.bool,.bool _=>true
 |.str,.str _=>true
 |_,_=>false
def kfits:List CK->List FV->Bool
 |[],[]=>true
 |c::cs,x::xs=>kfit c x&&kfits cs xs
 |_,_=>false
def FV.isAgg:FV->Bool
 |.agg _=>true
 |_=>false
def q2m(kag:Bool)(ks:List CK)(k:FV):Bool:=(bif kag then k.isAgg else !k.isAgg)&&kfits ks k.cells
def q3a(z v:FV):Bool:=(bif z.isAgg then v.isAgg else !v.isAgg)&&Nat.beq v.cells.length z.cells.length&&v.cells.all FV.flat
def constSV:Value->SV
 |.int k n=>.fv (.int k n)
 |.bool b=>.fv (.bool b)
 |.string s=>.fv (.str s)
 |.slice none 0 0=>.nilS
 |v=>.fv (.raw v)
def opd(x:Operand)(f:SV->RT):RT :=
 match x with
 |.tmp t=>.rd (.slot t) λe=>match e with | .sv v=>f v | _=>.fail
 |.const v=>f (constSV v)
 |.global _=>.fail
 |.func g=>f (.fv (.raw (.func (.func g) #[] #[])))
def opds:List Operand->(List SV->RT)->RT
 |[],f=>f []
 |x::r,f=>opd x λv=>opds r λvs=>f (v::vs)
def lstOf(sz:Nat):FV->Option (List FV)
 |.list s xs=>bif Nat.beq s sz then some xs else match xs with | []=>some [] | _=>none
 |_=>none
def q34(id:Nat)(f:Ent->RT):RT:=.rd (.head id) f
def seq(sz:Nat)(v:SV)(f:List FV->RT):RT :=
 match v with
 |.nilS=>f []
 |.fv x=>match lstOf sz x with | some xs=>f xs | none=>.fail
 |.sl id view=>q34 id λe=>match e with
  |.vec s xs | .frz s xs=>bif Nat.beq s sz then(match view with | none=>f xs | some (o,n)=>f ((xs.drop o).take n))else .fail
  |_=>.fail
 |_=>.fail
def frz1(v:SV)(f:FV->List (Key×Ent)->RT):RT :=
 match v with
 |.nilS=>f (.list 0 []) []
 |.fv x=>bif x.flat then f x []else .fail
 |.sl id view=>q34 id λe=>match e with
  |.vec s xs | .frz s xs=>(match view with | none=>f (.list s xs) [(.head id,.frz s xs)] | some (o,n)=>f (.list s ((xs.drop o).take n)) [(.head id,.frz s xs)])
  |_=>.fail
 |_=>.fail
def frzs:List SV->(List FV->List (Key×Ent)->RT)->RT
 |[],f=>f [] []
 |v::r,f=>frz1 v λx us=>frzs r λxs us'=>f (x::xs) (us++us')
def frz(v:SV)(f:FV->List (Key×Ent)->RT):RT :=
 match v with
 |.agg cs=>frzs cs λxs us=>f (.agg xs) us
 |v=>frz1 v f
def rdFV(x:Option FV)(ck:CK)(f:SV->RT):RT :=
 match ck with
 |.int k=>.int (asInt k x) λn=>f (.fv (.int k n))
 |.bool=>.boo (asBool x) λb=>f (.fv (.bool b))
 |.str=>.str (asStr x) λs=>f (.fv (.str s))
 |.lst sz=>.lst (asLst sz x) λxs=>f (.fv (.list sz xs))
 |.raw _=>.fail
def rdFVs(xs:List FV)(i:Nat):Nat->List CK->(List SV->RT)->RT
 |_,[],f=>f []
 |c,k::r,f=>rdFV (at' xs i c) k λv=>rdFVs xs i (c+1) r λvs=>f (v::vs)
def q7x(t:TyI)(xs:List FV)(i c:Nat)(f:SV->RT):RT :=
 bif t.agg then rdFVs xs i c t.ck λvs=>f (.agg vs)else match t.ck with | [k]=>rdFV (at' xs i c) k f | _=>.fail
def rdCells(id:Nat):Nat->Nat->(List SV->RT)->RT
 |_,0,f=>f []
 |off,n+1,f=>.rd (.cell id off) λe=>match e with | .sv v=>rdCells id (off+1) n λvs=>f (v::vs) | _=>.fail
def load(t:TyI)(a:SV)(f:SV->RT):RT :=
 match a with
 |.ptr id off=>q34 id λe=>match e with
  |.obj n=>bif Nat.ble (off+t.size) n then(bif t.agg then rdCells id off t.size λvs=>f (.agg vs)else .rd (.cell id off) λe=>match e with | .sv v=>f v | _=>.fail)else .fail
  |_=>.fail
 |.fp sz xs i c=>bif Nat.ble (c+t.size) sz then q7x t xs i c f else .fail
 |.ept id sz i c=>q34 id λe=>match e with
  |.vec s xs | .frz s xs=>bif Nat.beq s sz&&Nat.ble (c+t.size) sz then q7x t xs i c f else .fail
  |_=>.fail
 |_=>.fail
def live(x:SV)(t:RT):RT :=
 match x with
 |.ptr id _=>q34 id λe=>match e with | .obj _=>t | _=>.fail
 |.ept id _ _ _=>q34 id λe=>match e with | .vec _ _ | .frz _ _=>t | _=>.fail
 |.fp _ _ _ _=>t
 |_=>.fail
def SV.cells:SV->List SV
 |.agg cs=>cs
 |v=>[v]
def wrCells(id:Nat):Nat->List SV->List (Key×Ent)
 |_,[]=>[]
 |off,v::r=>(.cell id off,.sv v)::wrCells id (off+1) r
def SV.flat:SV->Bool
 |.fv x=>x.flat
 |.agg _ | .tup _ | .dead | .gone=>false
 |_=>true
def lives:List SV->RT->RT
 |[],t=>t
 |v::r,t=>match v with
  |.ptr id _ | .ept id _ _ _ | .sl id _ | .mp id=>q34 id λe=>match e with | .tomb=>.fail | _=>lives r t
  |_=>lives r t
def apart1(id:Nat):List (Key×Ent)->Bool
 |[]=>true
 |(.head i,_)::r=>!(Nat.beq i id)&&apart1 id r
 |_::_=>false
def store(t:TyI)(a x:SV):RT :=
 match a with
 |.ptr id off=>q34 id λe=>match e with
  |.obj n=>bif Nat.ble (off+t.size) n&&Nat.beq x.cells.length t.size&&x.cells.all SV.flat then lives x.cells (.ret (wrCells id off x.cells))else .fail
  |_=>.fail
 |.ept id sz i c=>q34 id λe=>match e with
  |.vec s xs=>bif Nat.beq s sz&&Nat.beq x.cells.length t.size then
    (bif Nat.beq c 0&&Nat.beq t.size sz then frz x λy us=>bif apart1 id us then .ret ((.head id,.vec s (xs.set i y))::us)else .fail
     else bif Nat.beq t.size 1&&Nat.ble (c+1) sz&&!t.agg then frz1 x λy us=>bif apart1 id us then .ret ((.head id,.vec s (setC xs i c y))::us)else .fail else .fail)
   else .fail
  |_=>.fail
 |_=>.fail
def binI(op:BinOp)(k:IntKind)(a b:Int)(f:SV->RT):RT :=
 match op with
 |.add=>f (.fv (.int k (k.wrap (a+b))))
 |.sub=>f (.fv (.int k (k.wrap (a-b))))
 |.mul=>f (.fv (.int k (k.wrap (a*b))))
 |.quo=>.cnd (decide (b=0)) .fail (f (.fv (.int k (k.wrap (a.tdiv b)))))
 |.rem=>.cnd (decide (b=0)) .fail (f (.fv (.int k (a.tmod b))))
 |.and | .or | .xor | .andNot=>f (.fv (.int k (bitI op k a b)))
 |.eql=>f (.fv (.bool (a==b)))
 |.neq=>f (.fv (.bool (a !=b)))
 |.lss=>f (.fv (.bool (decide (a<b))))
 |.leq=>f (.fv (.bool (decide (a<=b))))
 |.gtr=>f (.fv (.bool (decide (a>b))))
 |.geq=>f (.fv (.bool (decide (a≥b))))
 |_=>.fail
def binS(op:BinOp)(a b:ByteArray)(f:SV->RT):RT :=
 match op with
 |.add=>.cnd (decide (((a.size+b.size:Nat):Int)>IntKind.i64.max)) .fail (f (.fv (.str (a++b))))
 |.eql=>f (.fv (.bool (a.toList==b.toList)))
 |.neq=>f (.fv (.bool (!(a.toList==b.toList))))
 |.lss=>f (.fv (.bool (Op.bytesLess a.toList b.toList)))
 |.leq=>f (.fv (.bool (Op.bytesLess a.toList b.toList||a.toList==b.toList)))
 |.gtr=>f (.fv (.bool (!(Op.bytesLess a.toList b.toList||a.toList==b.toList))))
 |.geq=>f (.fv (.bool (!(Op.bytesLess a.toList b.toList))))
 |_=>.fail
def kindEq:IntKind->IntKind->Bool
 |.i8,.i8 | .i16,.i16 | .i32,.i32 | .i64,.i64 | .u8,.u8 | .u16,.u16 | .u32,.u32 | .u64,.u64=>true
 |_,_=>false
def eqOp(neg:Bool)(i:TyI)(x y:SV)(f:SV->RT):RT :=
 match i.agg,i.ck,x,y with
 |false,[.bool],.fv (.bool a),.fv (.bool b)=>f (.fv (.bool (cond neg (!(a==b)) (a==b))))
 |false,[.raw (.pointer none)],.ptr id off,.fv (.raw (.pointer none))=>live (.ptr id off) (f (.fv (.bool neg)))
 |false,[.raw (.pointer none)],.fv (.raw (.pointer none)),.fv (.raw (.pointer none))=>f (.fv (.bool (!neg)))
 |_,_,_,_=>.fail
def binOp(op:BinOp)(i:Option TyI)(x y:SV)(f:SV->RT):RT :=
 match x,y with
 |.fv (.int k a),.fv (.int k' b)=>match op with
  |.shl=>.cnd (decide (b<0)) .fail (f (.fv (.int k (shI true k a b))))
  |.shr=>.cnd (decide (b<0)) .fail (f (.fv (.int k (shI false k a b))))
  |op=>bif kindEq k k' then binI op k a b f else .fail
 |.fv (.str a),.fv (.str b)=>binS op a b f
 |x,y=>match op,i with
  |.eql,some i=>eqOp false i x y f
  |.neq,some i=>eqOp true i x y f
  |_,_=>.fail
def unOp(op:UnOp)(x:SV)(f:SV->RT):RT :=
 match op,x with
 |.neg,.fv (.int k n)=>f (.fv (.int k (k.wrap (0-n))))
 |.not,.fv (.bool b)=>f (.fv (.bool (!b)))
 |.xor,.fv (.int k n)=>f (.fv (.int k (bitI .xor k (if k.signed then -1 else k.max) n)))
 |_,_=>.fail
def rawOk:Value->Value->Bool
 |.pointer none,.pointer none | .map none,.map none | .nilFunc,.nilFunc | .nilIface,.nilIface=>true
 |.func (.func g) ⟨[]⟩ ⟨[]⟩,.func (.func g') ⟨[]⟩ ⟨[]⟩=>Nat.beq g g'
 |_,_=>false
def ckEq:CK->CK->Bool
 |.int k,.int k'=>kindEq k k'
 |.bool,.bool | .str,.str=>true
 |.lst s,.lst s'=>Nat.beq s s'
 |.raw v,.raw v'=>rawOk v v'
 |_,_=>false
def cksEq:List CK->List CK->Bool
 |[],[]=>true
 |c::cs,c'::cs'=>ckEq c c'&&cksEq cs cs'
 |_,_=>false
def zEq1:FV->FV->Bool
 |.int k a,.int k' b=>kindEq k k'&&(match a,b with | .ofNat 0,.ofNat 0=>true | _,_=>false)
 |.bool false,.bool false=>true
 |.str ⟨⟨[]⟩⟩,.str ⟨⟨[]⟩⟩=>true
 |.list s [],.list s' []=>Nat.beq s s'
 |.raw v,.raw v'=>rawOk v v'
 |_,_=>false
def zEqs:List FV->List FV->Bool
 |[],[]=>true
 |a::as,b::bs=>zEq1 a b&&zEqs as bs
 |_,_=>false
def zEq:FV->FV->Bool
 |.agg as,.agg bs=>zEqs as bs
 |.agg _,_=>false
 |_,.agg _=>false
 |a,b=>zEq1 a b
def bEq:Bool->Bool->Bool
 |true,true | false,false=>true
 |_,_=>false
def mkEq(kag:Bool)(ks:List CK)(z:FV)(kag':Bool)(ks':List CK)(z':FV):Bool:=bEq kag kag'&&cksEq ks ks'&&zEq z z'
def notIn(id:Nat):List (Option Nat)->Bool
 |[]=>true
 |some j::r=>!(Nat.beq j id)&&notIn id r
 |none::r=>notIn id r
def q4o(acc:List (Option Nat)):List (Key×Ent)->Bool
 |[]=>true
 |(.head id,_)::r=>notIn id acc&&q4o acc r
 |_::_=>false
def isFn:Value->Bool
 |.func (.func _) ⟨[]⟩ ⟨[]⟩=>true
 |_=>false
def ext:List Tok->List SV->List (Option Nat)->List (Key×Ent)->(List FV->List (Option Nat)->List (Key×Ent)->RT)->RT
 |[],[],acc,fz,f=>bif q4o acc fz then f [] acc fz else .fail
 |t::T,v::V,acc,fz,f=>match t with
  |.int k=>match v with
   |.fv (.int k' n)=>bif kindEq k k' then ext T V acc fz λL ids us=>f (.int k n::L) ids us else .fail
   |_=>.fail
  |.bool=>match v with
   |.fv (.bool b)=>ext T V acc fz λL ids us=>f (.bool b::L) ids us
   |_=>.fail
  |.str=>match v with
   |.fv (.str b)=>ext T V acc fz λL ids us=>f (.str b::L) ids us
   |_=>.fail
  |.lst sz=>match v with
   |.nilS=>ext T V acc fz λL ids us=>f (.list sz []::L) ids us
   |.fv x=>match lstOf sz x with
    |some xs=>ext T V acc fz λL ids us=>f (.list sz xs::L) ids us
    |none=>.fail
   |.sl id view=>q34 id λe=>match e with
    |.vec s xs | .frz s xs=>bif Nat.beq s sz then(match view with
      |none=>ext T V acc ((.head id,.frz s xs)::fz) λL ids us=>f (.list sz xs::L) ids us
      |some (o,n)=>ext T V acc ((.head id,.frz s xs)::fz) λL ids us=>f (.list sz ((xs.drop o).take n)::L) ids us)else .fail
    |_=>.fail
   |_=>.fail
  |.raw u=>match v with
   |.fv (.raw w)=>bif rawOk u w then ext T V acc fz λL ids us=>f (.raw u::L) ids us else .fail
   |_=>.fail
  |.fn=>match v with
   |.fv (.raw w)=>bif isFn w then ext T V acc fz λL ids us=>f (.raw w::L) ids us else .fail
   |_=>.fail
  |.fpt sz=>match v with
   |.fp s [x] 0 0=>bif Nat.beq s sz then ext T V acc fz λL ids us=>f (.ref s x::L) ids us else .fail
   |_=>.fail
  |.skip=>ext T V acc fz f
  |.own sz=>match v with
   |.nilS=>ext T V (acc++[none]) fz λL ids us=>f (.list sz []::L) ids us
   |.sl id none=>q34 id λe=>match e with
    |.vec s xs=>bif Nat.beq s sz&&notIn id acc then ext T V (acc++[some id]) fz λL ids us=>f (.list sz xs::L) ids us else .fail
    |_=>.fail
   |_=>.fail
  |.obj k=>match v with
   |.ptr id 0=>q34 id λe=>match e with
    |.obj n=>bif Nat.beq n k&&notIn id acc then rdCells id 0 k λvs=>ext T (vs++V) (acc++[some id]) fz f else .fail
    |_=>.fail
   |_=>.fail
  |.ref j=>match v,acc[j]? with
   |.ptr id 0,some (some id')=>bif Nat.beq id id' then ext T V acc fz f else .fail
   |_,_=>.fail
  |.agg k=>match v with
   |.agg cs=>bif Nat.beq cs.length k then ext T (cs++V) acc fz f else .fail
   |_=>.fail
  |.clo fn k=>match fn,v with
   |.func g,.clo (.func g') [] cs=>bif Nat.beq g g'&&Nat.beq cs.length k then ext T (cs++V) acc fz f else .fail
   |_,_=>.fail
  |.mapt kag ks z=>match v with
   |.mp id=>q34 id λe=>match e with
    |.mapH kag' ks' z'=>bif mkEq kag ks z kag' ks' z'&&notIn id acc then .rd (.cell id 0) λe=>match e with
     |.map es clk=>ext T V (acc++[some id]) fz λL ids us=>f (.list 3 es::.int .i64 clk::L) ids us
     |_=>.fail
     else .fail
    |_=>.fail
   |_=>.fail
 |_,_,_,_,_=>.fail
def dec(L:List FV):Nat->List Tok->(List FV->RT)->RT
 |_,[],f=>f []
 |j,t::T,f=>match t with
  |.int k=>.int (asInt k L[j]?) λn=>dec L (j+1) T λr=>f (.int k n::r)
  |.bool=>.boo (asBool L[j]?) λn=>dec L (j+1) T λr=>f (.bool n::r)
  |.str=>.str (asStr L[j]?) λn=>dec L (j+1) T λr=>f (.str n::r)
  |.lst sz | .own sz=>.lst (asLst sz L[j]?) λn=>dec L (j+1) T λr=>f (.list sz n::r)
  |.raw u=>dec L (j+1) T λr=>f (.raw u::r)
  |.fn=>.fail
  |.fpt sz=>.lst (asRef sz L[j]?) λn=>dec L (j+1) T λr=>f (.ref sz (hd1 n)::r)
  |.skip | .obj _ | .ref _ | .agg _ | .clo _ _=>dec L j T f
  |.mapt _ _ _=>.lst (asLst 3 L[j]?) λes=>.int (asInt .i64 L[j+1]?) λclk=>dec L (j+2) T λr=>f (.list 3 es::.int .i64 clk::r)
def bld(nm:List Nat):Nat->List Tok->List FV->Option (List (Key×Ent)×List SV×List FV)
 |_,[],L=>some ([],[],L)
 |j,t::T,L=>match t with
  |.int _ | .bool | .str | .lst _ | .raw _ | .fn=>match L with
   |x::L=>match bld nm j T L with
    |some (us,vs,r)=>some (us,.fv x::vs,r)
    |none=>none
   |[]=>none
  |.fpt _=>match L with
   |.ref sz x::L=>match bld nm j T L with
    |some (us,vs,r)=>some (us,.fp sz [x] 0 0::vs,r)
    |none=>none
   |_=>none
  |.skip=>match bld nm j T L with
   |some (us,vs,r)=>some (us,.dead::vs,r)
   |none=>none
  |.own _=>match L,nm[j]? with
   |.list sz xs::L,some id=>match bld nm (j+1) T L with
    |some (us,vs,r)=>some ((.head id,.vec sz xs)::us,.sl id none::vs,r)
    |none=>none
   |_,_=>none
  |.obj k=>match nm[j]? with
   |some id=>match bld nm (j+1) T L with
    |some (us,vs,r)=>some ((.head id,.obj k)::(wrCells id 0 (vs.take k)++us),.ptr id 0::vs.drop k,r)
    |none=>none
   |none=>none
  |.ref i=>match nm[i]? with
   |some id=>match bld nm j T L with
    |some (us,vs,r)=>some (us,.ptr id 0::vs,r)
    |none=>none
   |none=>none
  |.agg k=>match bld nm j T L with
   |some (us,vs,r)=>some (us,.agg (vs.take k)::vs.drop k,r)
   |none=>none
  |.clo fn k=>match bld nm j T L with
   |some (us,vs,r)=>some (us,.clo fn [] (vs.take k)::vs.drop k,r)
   |none=>none
  |.mapt kag ks z=>match L,nm[j]? with
   |.list _ es::.int _ clk::L,some id=>match bld nm (j+1) T L with
    |some (us,vs,r)=>some ((.head id,.mapH kag ks z)::(.cell id 0,.map es clk)::(.cell id 1,.map es clk)::us,.mp id::vs,r)
    |none=>none
   |_,_=>none
def owns:List Tok->Nat
 |[]=>0
 |.own _::T | .obj _::T | .mapt _ _ _::T=>owns T+1
 |_::T=>owns T
def namesFrom(base:Nat):Nat->List Nat
 |0=>[]
 |n+1=>base::namesFrom (base+1) n
def tops:Nat->List Tok->List Bool
 |_,[]=>[]
 |n,t::T=>match t with
  |.own _ | .mapt _ _ _=>Nat.beq n 0::tops (n-1) T
  |.obj k=>Nat.beq n 0::tops (n-1+k) T
  |.agg k | .clo _ k=>tops (bif Nat.beq n 0 then 0 else n-1+k) T
  |_=>tops (n-1) T
def nameAll(base:Nat):List Bool->List (Option Nat)->Nat->List Nat
 |b::bs,o::r,n=>(match b,o with | true,some id=>id | _,_=>base)::nameAll (base+1) bs r (n-1)
 |_,_,n=>namesFrom base n
def newOf:List Bool->List (Option Nat)->List Nat->List Nat
 |b::bs,o::r,id::nm=>(match b,o with | true,some _=>newOf bs r nm | _,_=>id::newOf bs r nm)
 |_,_,nm=>nm
def tombsOf:List Bool->List (Option Nat)->List (Key×Ent)
 |b::bs,o::r=>(match b,o with | false,some id=>(.head id,.tomb)::tombsOf bs r | _,_=>tombsOf bs r)
 |_,_=>[]
def tokEq:Tok->Tok->Bool
 |.int k,.int k'=>kindEq k k'
 |.bool,.bool | .str,.str | .skip,.skip | .fn,.fn=>true
 |.mapt kag ks z,.mapt kag' ks' z'=>mkEq kag ks z kag' ks' z'
 |.fpt s,.fpt s' | .lst s,.lst s' | .own s,.own s' | .obj s,.obj s' | .ref s,.ref s' | .agg s,.agg s'=>Nat.beq s s'
 |.raw v,.raw v'=>rawOk v v'
 |.clo (.func g) k,.clo (.func g') k'=>Nat.beq g g'&&Nat.beq k k'
 |_,_=>false
def arity:Tok->Nat
 |.obj k | .agg k | .clo _ k=>k
 |_=>0
def pastTok:List Tok->Nat->Option (List Tok)
 |T,0=>some T
 |t::T,n+1=>match t with
  |.own _ | .obj _ | .mapt _ _ _ | .ref _=>none
  |t=>pastTok T (n+arity t)
 |[],_+1=>none
def ioOk:Nat->List Tok->List Tok->Bool
 |0,[],_=>true
 |0,.obj k::T,.obj k'::U=>Nat.beq k k'&&ioOk k T U
 |0,.own s::T,.own s'::U=>Nat.beq s s'&&ioOk 0 T U
 |0,.mapt kag ks z::T,.mapt kag' ks' z'::U=>mkEq kag ks z kag' ks' z'&&ioOk 0 T U
 |0,.clo _ k::T,.clo _ k'::U=>Nat.beq k k'&&ioOk 0 T U
 |0,.ref _::T,.ref _::U=>ioOk 0 T U
 |0,.agg k::T,.skip::U=>match pastTok T k with
  |some T'=>ioOk 0 T' U
  |none=>false
 |0,t::T,.skip::U=>match t with
  |.int _ | .bool | .str | .lst _ | .raw _ | .fn | .fpt _ | .skip=>ioOk 0 T U
  |_=>false
 |n+1,t::T,u::U=>tokEq t u&&ioOk (n+arity t) T U
 |_,_,_=>false
def giveOk:List Tok->List Tok->Bool
 |[.own _],.skip::_=>true
 |_,_=>false
def okIO(T U:List Tok):Bool:=giveOk T U||ioOk 0 T U
def q61(T U:List Tok):List Bool:=bif giveOk T U then [false]else tops 0 T
def flatOk:Nat->List Tok->Bool
 |_,[]=>true
 |0,t::T=>match t with
  |.obj k=>flatOk k T
  |_=>flatOk 0 T
 |n+1,t::T=>match t with
  |.agg _ | .skip=>false
  |t=>flatOk (n+arity t) T
def putSlots:List Nat->List SV->List (Key×Ent)
 |t::ts,v::vs=>(.slot t,.sv v)::putSlots ts vs
 |_,_=>[]
def ixView(n:Int)(len:Nat)(view:Option (Nat×Nat))(f:Nat->RT):RT :=
 match view with
 |none=>.nat (ix n len) f
 |some (o,m)=>.nat (ix n m) λj=>f (o+j)
section
variable (E:Env) (call:FuncId->List FV->Res)
def out(dst:Option Tmp)(v:SV)(us:List (Key×Ent)):RT :=
 match dst with
 |some d=>.ret ((.slot d,.sv v)::us)
 |none=>.ret us
def ty(t:TypeId)(f:TyI->RT):RT:=match E.ty t with | some i=>f i | none=>.fail
def sliceTy(t:TypeId)(f:TyI->RT):RT:=ty E t λti=>match ti.agg,ti.ck with | false,[.lst _]=>ty E ti.elem f | _,_=>.fail
def isStr(t:TypeId)(f:RT):RT:=ty E t λti=>match ti.agg,ti.ck with | false,[.str]=>f | _,_=>.fail
def scalarOut:List Tok->Bool
 |[]=>true
 |t::T=>match t with
  |.lst _ | .own _ | .mapt _ _ _ | .fpt _=>false
  |_=>scalarOut T
def freshAll:List Nat->RT->RT
 |[],t=>t
 |id::r,t=>.fresh id (freshAll r t)
def vb(f:Nat):Nat:=Nat.mod f 100000
def fnNo:List SV->Option Nat
 |[]=>none
 |v::r=>match v with
  |.clo (.func g) _ _=>some g
  |.fv (.raw (.func (.func g) _ _))=>some g
  |_=>fnNo r
def vary(E:Env)(f:FuncId)(vs:List SV):FuncId :=
 match E.fn f with
 |some i=>match fnNo vs with
  |some g=>match annAt' i.ann (Nat.add 1000000 g)with
   |some [v]=>v
   |_=>f
  |none=>f
 |none=>f
where
 annAt' (an:List (Nat×List Nat×List Tok)) (id:Nat):Option (List Nat):=match an with
  |[]=>none
  |a::r=>bif Nat.beq a.1 id then some a.2.1 else annAt' r id
def callOp0(dst:Option Tmp)(f:FuncId)(vs:List SV):RT :=
 match E.fn f,dst with
 |some i,some d=>bif okIO i.tin i.tout&&(flatOk 0 i.tin&&flatOk 0 i.tout)then ext i.tin vs [] [] λL ids us =>
  .lst (call f L) λL'=>dec L' 0 i.tout λL'' =>
   match bld (nameAll (1000*(d+2)) (q61 i.tin i.tout) ids (owns i.tout)) 0 i.tout L'' with
   |some (ws,rs,[])=>freshAll (newOf (q61 i.tin i.tout) ids (nameAll (1000*(d+2)) (q61 i.tin i.tout) ids (owns i.tout)))
     (.ret ((.slot d,.sv (match rs.drop vs.length with | [r]=>r | rs=>.tup rs))::(ws++(tombsOf (q61 i.tin i.tout) ids++(bif scalarOut i.tout then []else us)))))
   |_=>.fail
  else .fail
 |_,_=>.fail
def qcc(dst:Option Tmp)(f:FuncId)(vs:List SV):RT:=bif Nat.beq (vb (vary E f vs)) f then callOp0 E call dst (vary E f vs) vs else .fail
def callee(v:SV)(f:FuncId->List SV->RT):RT :=
 match v with
 |.fv (.raw (.func (.func g) ⟨[]⟩ ⟨[]⟩))=>f g []
 |.clo (.func g) [] cs=>f g cs
 |_=>.fail
def qd(n:Nat)(z:FV)(parts:List (Nat×FV)):List FV:=parts.foldl (λl p=>l.set p.1 p.2) (List.replicate n z)
def frzParts(n sz:Nat):List (Nat×SV)->(List (Nat×FV)->List (Key×Ent)->RT)->RT
 |[],f=>f [] []
 |(i,v)::r,f=>frz v λx us=>bif Nat.beq v.cells.length sz&&Nat.ble (i+1) n then frzParts n sz r λps us'=>f ((i,x)::ps) (us++us')else .fail
def fillR(flds:List (Nat×Nat)):List SV->List (Nat×SV)->(List SV->RT)->RT
 |cs,[],f=>f cs
 |cs,(i,v)::r,f=>match flds[i]? with
  |some (off,ft)=>ty E ft λfi=>bif Nat.beq v.cells.length fi.size&&Nat.ble (off+fi.size) cs.length&&v.cells.all SV.flat then
    lives v.cells (fillR flds (cs.take off++(v.cells++cs.drop (off+v.cells.length))) r f)else .fail
  |none=>.fail
def opdP:List (Nat×Operand)->(List (Nat×SV)->RT)->RT
 |[],f=>f []
 |(i,x)::r,f=>opd x λv=>opdP r λvs=>f ((i,v)::vs)
def slLo(h:Nat)(lo:Option Int)(g:Nat->Nat->RT):RT :=
 match lo with
 |none=>g 0 h
 |some l=>.nat (bd l h) λl=>g l h
def slB(len:Nat)(lo hi:Option Int)(g:Nat->Nat->RT):RT :=
 match hi with
 |none=>slLo len lo g
 |some h=>.nat (bd h len) λh=>slLo h lo g
def viewOf(view:Option (Nat×Nat))(len:Nat):Nat×Nat:=match view with | none=>(0,len) | some p=>p
def sliceOp(t:TypeId)(x:SV)(lo hi:Option Int)(f:SV->RT):RT :=
 match x with
 |.fv (.str s)=>isStr E t (slB s.size lo hi λl h=>f (.fv (.str (s.extract l h))))
 |.fv (.list sz xs)=>sliceTy E t λte=>bif Nat.beq te.size sz then slB xs.length lo hi λl h=>f (.fv (.list sz ((xs.take h).drop l)))else .fail
 |.nilS=>sliceTy E t λ_=>slB 0 lo hi λ_ _=>f .nilS
 |.sl id view=>sliceTy E t λte=>q34 id λe=>match e.row with
  |some (sz,len)=>bif Nat.beq te.size sz then slB (viewOf view len).2 lo hi λl h=>f (.sl id (some ((viewOf view len).1+l,h-l)))else .fail
  |none=>.fail
 |_=>.fail
def qd6(v:Option SV)(f:Option Int->RT):RT :=
 match v with
 |none=>f none
 |some (.fv (.int _ n))=>f (some n)
 |_=>.fail
def opdO(x:Option Operand)(f:Option SV->RT):RT:=match x with | none=>f none | some x=>opd x λv=>f (some v)
def mapTy(t:TypeId)(f:TyI->TyI->RT):RT:=ty E t λti=>match ti.agg,ti.ck with
 |false,[.raw (.map none)]=>ty E ti.key λki=>ty E ti.elem λei=>f ki ei
 |_,_=>.fail
def q71(t:TypeId)(m:SV)(f:Nat->TyI->Bool->List CK->FV->RT):RT:=mapTy E t λki ei=>match m with
 |.mp id=>q34 id λe=>match e with
  |.mapH kag ks z=>bif mkEq kag ks z ki.agg ki.ck ei.q1g then f id ei kag ks z else .fail
  |_=>.fail
 |_=>.fail
def keyOf'(kag:Bool)(ks:List CK)(k:SV)(f:FV->RT):RT:=frz k λx us=>match us with
 |[]=>bif q2m kag ks x then f x else .fail
 |_=>.fail
def q5u(id c:Nat)(f:List FV->Int->RT):RT:=.rd (.cell id c) λe=>match e with | .map es clk=>f es clk | _=>.fail
def q3v(id:Nat)(es:List FV)(clk:Int)(us:List (Key×Ent)):List (Key×Ent):=(.cell id 0,.map es clk)::(.cell id 1,.map es clk)::us
def builtinOp(d:Option Tmp)(b:Builtin)(argTypes:List TypeId)(vs:List SV):RT :=
 match b,vs with
 |.len,[v]=>match argTypes with
  |[t]=>match v with
   |.fv (.str s)=>isStr E t (out d (.fv (.int .i64 s.size)) [])
   |.fv (.list _ xs)=>sliceTy E t λ_=>out d (.fv (.int .i64 xs.length)) []
   |.nilS=>sliceTy E t λ_=>out d (.fv (.int .i64 0)) []
   |.sl id view=>sliceTy E t λ_=>q34 id λe=>match e with
    |.vec _ xs | .frz _ xs=>match view with | none=>out d (.fv (.int .i64 xs.length)) [] | some (_,n)=>out d (.fv (.int .i64 n)) []
    |_=>.fail
   |.mp id=>q71 E t (.mp id) λid _ _ _ _=>q5u id 0 λes _=>out d (.fv (.int .i64 es.length)) []
   |_=>.fail
  |_=>.fail
 |.delete,[m,k]=>match argTypes with
  |t::_=>q71 E t m λid _ kag ks _=>keyOf' kag ks k λk=>q5u id 0 λes clk=>out d .dead (q3v id (mdel es k) clk [])
  |_=>.fail
 |.append,[s,x]=>match argTypes,d with
  |[t,u],some d=>bif Nat.beq t u then sliceTy E t λte=>bif Nat.ble te.bytes 1048576&&Nat.ble 1 te.bytes&&Nat.ble 1 te.size then(seq te.size x λys=>match s with
   |.nilS=>.cnd (Nat.ble ys.length (140737488355328 / te.bytes)) (.fresh d (.ret [(.slot d,.sv (.sl d none)),(.head d,.vec te.size ys)])) .fail
   |.sl id view=>q34 id λe=>match e with
    |.vec sz xs=>bif Nat.beq sz te.size then(match view with
     |none=>.cnd (Nat.ble (xs.length+ys.length) (140737488355328 / te.bytes)) (.fresh d (.ret [(.slot d,.sv (.sl d none)),(.head d,.vec sz (xs++ys)),(.head id,.tomb)])) .fail
     |some (0,n)=>.cnd (Nat.ble (n+ys.length) (140737488355328 / te.bytes)) (.fresh d (.ret [(.slot d,.sv (.sl d none)),(.head d,.vec sz (xs.take n++ys)),(.head id,.tomb)])) .fail
     |_=>.fail)else .fail
    |_=>.fail
   |_=>.fail)else .fail else .fail
  |_,_=>.fail
 |.min,[.fv (.int k a),.fv (.int _ b)]=>out d (.fv (.int k (if b<a then b else a))) []
 |.max,[.fv (.int k a),.fv (.int _ b)]=>out d (.fv (.int k (if a<b then b else a))) []
 |_,_=>.fail
def rtOp(o:Oper):RT :=
 let d:=o.dst
 match o.op with
 |.move x | .assign x=>opd x λv=>out d v []
 |.pick c a b=>opd c λc=>opd a λa=>opd b λb=>match c with
  |.fv (.bool c)=>match a,b with
   |.fv (.bool a),.fv (.bool b)=>out d (.fv (.bool (cond c a b))) []
   |a,b=>.cnd c (out d a []) (out d b [])
  |_=>.fail
 |.alloc t=>ty E t λi=>match d with
  |some d=>.fresh d (.ret ((.slot d,.sv (.ptr d 0))::(.head d,.obj i.size)::wrCells d 0 i.q7o))
  |none=>.fail
 |.box t x=>ty E t λi=>opd x λv=>match d with
  |some d=>bif Nat.beq v.cells.length i.size&&v.cells.all SV.flat then lives v.cells <| .fresh d (.ret ((.slot d,.sv (.ptr d 0))::(.head d,.obj i.size)::wrCells d 0 v.cells))else .fail
  |none=>.fail
 |.build t parts=>ty E t λi=>opdP parts.toList λps=>bif i.flds.all (λp=>(E.ty p.2).isSome)&&!i.flds.isEmpty then fillR E i.flds i.q7o ps λcs=>out d (.agg cs) []else .fail
 |.buildSlice t n parts=>sliceTy E t λte=>opdP parts.toList λps=>frzParts n te.size ps λxs us=>match d with
  |some d=>bif Nat.ble (n*te.size) 16777216&&Nat.ble 1 te.size then .fresh d (.ret ((.slot d,.sv (.sl d none))::(.head d,.vec te.size (qd n te.q1g xs))::us))else .fail
  |none=>.fail
 |.load t a=>ty E t λi=>opd a λa=>load i a λv=>out d v []
 |.store t a x=>ty E t λi=>opd a λa=>opd x λx=>store i a x
 |.nilCheck x=>opd x λv=>live v (out d v [])
 |.binOp op t x y _=>opd x λx=>opd y λy=>binOp op (E.ty t) x y λv=>out d v []
 |.unOp op _ x=>opd x λx=>unOp op x λv=>out d v []
 |.convert src dst x=>opd x λx=>ty E src λ_=>ty E dst λi=>match i.agg,x,i.ck with
  |false,.fv (.int _ n),[.int k]=>out d (.fv (.int k (k.wrap n))) []
  |false,.fv (.str s),[.str]=>out d (.fv (.str s)) []
  |false,x,[.str]=>sliceTy E src λte=>match te.agg,te.ck with
   |false,[.int .u8]=>seq 1 x λxs=>.str (bytesO xs) λs=>out d (.fv (.str s)) []
   |_,_=>.fail
  |_,_,_=>.fail
 |.makeFunc fn first caps=>opds first.toList λfs=>opds caps.toList λcs=>out d (.clo fn fs cs) []
 |.makeMap t none=>mapTy E t λki ei=>match d with
  |some d=>.fresh d (.ret ((.slot d,.sv (.mp d))::(.head d,.mapH ki.agg ki.ck ei.q1g)::q3v d [] 0 []))
  |none=>.fail
 |.lookup t m k ok=>opd m λm=>opd k λk=>q71 E t m λid ei kag ks z=>keyOf' kag ks k λk=>match ok with
  |false=>q5u id 1 λes _=>q7x ei [mgetD es k z] 0 0 λv=>out d v []
  |true=>q5u id 0 λes _=>q7x ei [mgetD es k z] 0 0 λv=>out d (.tup [v,.fv (.bool (mhas es k))]) []
 |.mapUpdate t m k x | .insert t m k x=>opd m λm=>opd k λk=>opd x λx=>q71 E t m λid _ kag ks z=>keyOf' kag ks k λk=>frz x λy us =>
  bif q3a z y&&d.isNone then q5u id 0 λes clk=>.ret (q3v id (mput es k y clk) (mclk es k clk) us)else .fail
 |.mapEntry t m k=>opd m λm=>opd k λk=>q71 E t m λid _ kag ks z=>keyOf' kag ks k λk=>q5u id 0 λes clk=>match d with
  |some d=>.ret [(.slot d,.sv (.tup [.dead,.fv (.int .i64 (mborn es k clk))])),(.cell id 0,.map (ment es k z clk) (mclk es k clk))]
  |none=>.fail
 |.entryStore t m s x=>opd m λm=>opd s λs=>opd x λx=>q71 E t m λid _ _ _ z=>match s with
  |.fv (.int _ b)=>frz x λy us=>bif q3a z y&&d.isNone then q5u id 0 λes clk=>.cnd (q5t es b) (.ret (q3v id (msetB es b y) clk us)) .fail else .fail
  |_=>.fail
 |.makeSlice t n c=>sliceTy E t λte=>opd n λn=>opd c λc=>match n,c,d with
  |.fv (.int _ n),.fv (.int _ c),some d=>bif Nat.ble 1 te.size then .nat (q1r te.bytes c) λc=>.nat (bd n c) λn =>
   .fresh d (.ret [(.slot d,.sv (.sl d none)),(.head d,.vec te.size (List.replicate n te.q1g))])else .fail
  |_,_,_=>.fail
 |.slice t x lo hi mx=>opd x λx=>opdO lo λlo=>opdO hi λhi=>opdO mx λmx =>
  match mx with
  |none=>qd6 lo λlo=>qd6 hi λhi=>sliceOp E t x lo hi λv=>out d v []
  |some _=>.fail
 |.fieldAddr s x f=>ty E s λi=>opd x λx=>match i.flds[f]? with
  |some (off,ft)=>ty E ft λfi=>bif Nat.ble 1 fi.size then live x (match x with
   |.ptr id o=>out d (.ptr id (o+off)) []
   |.ept id sz j c=>out d (.ept id sz j (c+off)) []
   |.fp sz xs j c=>out d (.fp sz xs j (c+off)) []
   |_=>.fail)else .fail
  |none=>.fail
 |.field s x f=>ty E s λi=>opd x λx=>match i.flds[f]?,x with
  |some (off,ft),.agg cs=>ty E ft λfi=>bif Nat.ble (off+fi.size) cs.length then
    (bif fi.agg then out d (.agg ((cs.drop off).take fi.size)) []else match cs[off]? with | some v=>out d v [] | none=>.fail)else .fail
  |_,_=>.fail
 |.indexAddr t x i=>sliceTy E t λte=>opd x λx=>opd i λi=>match i with
  |.fv (.int _ n)=>match x with
   |.fv (.list sz xs)=>bif Nat.beq sz te.size then .nat (ix n xs.length) λj=>out d (.fp sz xs j 0) []else .fail
   |.sl id view=>q34 id λe=>match e with
    |.vec sz xs | .frz sz xs=>bif Nat.beq sz te.size then ixView n xs.length view λj=>out d (.ept id sz j 0) []else .fail
    |_=>.fail
   |_=>.fail
  |_=>.fail
 |.index t x i=>opd x λx=>opd i λi=>match x,i with
  |.fv (.str s),.fv (.int _ n)=>isStr E t <| .int (q2q s n) λb=>out d (.fv (.int .u8 b)) []
  |_,_=>.fail
 |.extract x j=>opd x λx=>match x with
  |.tup vs=>match vs[j]? with | some v=>out d v [] | none=>.fail
  |_=>.fail
 |.call c=>match c.callee with
  |.value fx=>opd fx λfv=>opds c.args.toList λvs=>callee fv λg cs=>qcc E call d g (vs++cs)
  |.builtin b=>opds c.args.toList λvs=>builtinOp E d b c.argTypes.toList vs
  |.invoke _ _=>.fail
 |_=>.fail
abbrev Fp:=List Key×List Key
def q2d(us:List (Key×Ent)):List Key:=us.map (·.1)
def evOps(ops:Array Oper):List Oper->Mem->List Fp->(Mem->List Fp->Res)->Res
 |[],M,fs,K=>K M fs
 |o::r,M,fs,K =>
  let exec (M:Mem) (pre:List Key) (wr:List (Key×Ent)):Res :=
   (rtOp E call o).run M pre λus lg=>evOps ops r (us++M) ((lg,q2d us++q2d wr)::fs) K
  let skip (M:Mem) (pre:List Key):Res:=match o.dst with
   |some d=>evOps ops r ((.slot d,.sv .gone)::M) ((pre,[.slot d])::fs) K
   |none=>evOps ops r M ((pre,[])::fs) K
  match o.guard with
  |none=>exec M [] []
  |some (j,want)=>match(ops[j]?).bind (·.dst)with
   |some g=>match M.get (.slot g)with
    |some (.sv (.fv (.bool b))) =>
     cond b (cond want (exec ((.slot g,.sv (.fv (.bool true)))::M) [.slot g] []) (skip ((.slot g,.sv (.fv (.bool true)))::M) [.slot g]))
      (cond want (skip ((.slot g,.sv (.fv (.bool false)))::M) [.slot g]) (exec ((.slot g,.sv (.fv (.bool false)))::M) [.slot g] []))
    |some (.sv .gone)=>skip M [.slot g]
    |_=>none
   |none=>none
def qb4(a b:List Key):Bool:=a.all λk=>!(b.any λk'=>k.beq k')
def fpOk(before:Array Nat):Nat->List Fp->Bool
 |_,[]=>true
 |j,f::fs=>inner (before.getD j 0) f (j-1) fs&&fpOk before (j-1) fs
where
 inner (bj:Nat) (f:Fp):Nat->List Fp->Bool
  |_,[]=>true
  |i,g::gs=>(bj.testBit i||(qb4 f.2 g.1&&qb4 g.2 f.1&&qb4 f.2 g.2))&&inner bj f (i-1) gs
inductive X where
 |normal
 |exit (id:Nat)
 |ret
abbrev Kont:=X->Mem->Res
def slotsOf:List Nat->(List SV->RT)->RT
 |[],f=>f []
 |t::r,f=>.rd (.slot t) λe=>match e with | .sv v=>slotsOf r λvs=>f (v::vs) | _=>.fail
def RT.told(t:RT)(M:Mem)(K:List FV->Res):Res :=
 t.run M [] λus _=>match us with
  |[(_,.sv (.fv (.agg L)))]=>K L
  |_=>none
def tell(L:List FV):RT:=.ret [(.slot 0,.sv (.fv (.agg L)))]
def memOf(ts:List Nat)(T:List Tok)(L:List FV):Mem :=
 match bld (namesFrom 1000 (owns T)) 0 T L with
 |some (us,vs,_)=>putSlots ts vs++us
 |none=>[]
abbrev Ann:=List (Nat×List Nat×List Tok)
def annAt(an:Ann)(id:Nat):Option (List Nat×List Tok):=(an.find? (λa=>Nat.beq a.1 id)).map (·.2)
def prune(an:Ann)(id:Nat)(M:Mem)(K:Mem->Res):Res :=
 match annAt an id with
 |none=>K M
 |some (ts,T)=>bif flatOk 0 T then(slotsOf ts λvs=>ext T vs [] [] λL _ _=>tell L).told M λL=>K (memOf ts T L)else none
def kSeq(g:Mem->Res)(K:Kont):Kont
 |.normal,M=>g M
 |e,M=>K e M
def kBlock(id:Nat)(K:Kont):Kont
 |.exit j,M=>bif Nat.beq j id then K .normal M else K (.exit j) M
 |e,M=>K e M
def q4h:Code->Nat
 |.region id _ _=>id
 |.seq a _=>q4h a
 |.block _ c=>q4h c
 |.scope c=>q4h c
 |_=>0
def evLoop(id:Nat)(B:Kont->Mem->Res)(K:Kont)(pr:Mem->(Mem->Res)->Res):Nat->Mem->Res
 |0,_=>none
 |m+1,M=>B (kSeq (λM'=>pr M' (evLoop id B K pr m)) K) M
def evR(ops:Array Oper)(draw:Bool)(K:Kont)(M:Mem):Res :=
 evOps E call ops ops.toList M [] λM fs=>cond (!draw||fpOk (Region.before ops) (ops.size-1) fs) (K .normal M) none
def evC(an:Ann)(n:Nat):Code->Kont->Mem->Res
 |.skip,K,M=>K .normal M
 |.label _,K,M=>K .normal M
 |.ret,K,M=>K .ret M
 |.exit id,K,M=>K (.exit id) M
 |.region id ops draw,K,M=>prune an id M (evR E call ops draw K)
 |.seq a b,K,M=>evC an n a (kSeq (evC an n b K) K) M
 |.cond c x y,K,M=>match c with
  |.tmp t=>match M.get (.slot t)with
   |some (.sv (.fv (.bool b)))=>cond b (evC an n x K M) (evC an n y K M)
   |_=>none
  |.const (.bool true)=>evC an n x K M
  |.const (.bool false)=>evC an n y K M
  |_=>none
 |.block id c,K,M=>evC an n c (kBlock id K) M
 |.scope c,K,M=>evC an n c K M
 |.loop c,K,M=>prune an (q4h c) M (evLoop (q4h c) (λK' M'=>evC an n c K' M') K (prune an (q4h c)) n)
 |_,_,_=>none
def resOf:List ResultVar->(List SV->RT)->RT
 |[],f=>f []
 |.tmp t::r,f=>.rd (.slot t) λe=>match e with | .sv v=>resOf r λvs=>f (v::vs) | _=>.fail
 |.cell a t::r,f=>.rd (.slot a) λe=>match e with | .sv p=>ty E t λi=>load i p λv=>resOf r λvs=>f (v::vs) | _=>.fail
def kept:SV->SV
 |.fv _ | .agg _ | .fp _ _ _ _=>.dead
 |v=>v
def rdPins:Nat->List SV->(List SV->RT)->RT
 |_,[],f=>f []
 |j,s::r,f=>match s with
  |.dead=>rdPins (j+1) r λvs=>f (.dead::vs)
  |_=>.rd (.slot j) λe=>match e with | .sv v=>rdPins (j+1) r λvs=>f (v::vs) | _=>.fail
def kRet(fn:Func)(i:FnI)(ps:List SV):Kont
 |.exit _,_=>none
 |_,M=>(rdPins 0 ps λqs=>resOf E fn.results.toList λrs=>ext i.tout (qs++rs) [] [] λL _ _=>tell L).told M some
end
def q83:Nat->List SV->List Nat
 |_,[]=>[]
 |j,s::r=>match s with
  |.dead=>q83 (j+1) r
  |_=>j::q83 (j+1) r
def notElem(d:Nat):List Nat->Bool
 |[]=>true
 |x::r=>!(Nat.beq x d)&&notElem d r
def opOk(nt:Nat)(pins:List Nat)(o:Oper):Bool :=
 (match o.dst with | some d=>Nat.ble (d+1) nt&&notElem d pins | none=>true)&&(match o.op,o.dst with | .store _ _ _,some _=>false | _,_=>true)
def topoEdges(i:Nat):List Edge->Bool
 |[]=>true
 |e::r=>(!Region.binds .any e||Nat.ble (e.on+1) i)&&topoEdges i r
def opsOk(nt:Nat)(pins:List Nat):Nat->List Oper->Bool
 |_,[]=>true
 |i,o::r=>opOk nt pins o&&topoEdges i o.after.toList&&opsOk nt pins (i+1) r
def codeOk(nt:Nat)(pins:List Nat):Code->Bool
 |.region _ ops _=>opsOk nt pins 0 ops.toList
 |.seq a b=>codeOk nt pins a&&codeOk nt pins b
 |.cond _ a b=>codeOk nt pins a&&codeOk nt pins b
 |.block _ c=>codeOk nt pins c
 |.scope c=>codeOk nt pins c
 |.loop c=>codeOk nt pins c
 |_=>true
def evFb(E:Env)(call:FuncId->List FV->Res)(n:Nat)(f:FuncId)(L:List FV):Res :=
 match E.fn f,E.fc f with
 |some i,some fn=>match fn.body,bld (namesFrom 1000 (owns i.tin)) 0 i.tin L with
  |some c,some (us,vs,[])=>bif flatOk 0 i.tin&&codeOk fn.ntmps (q83 0 (vs.map kept)) c then evC E call i.ann n c (kRet E fn i (vs.map kept)) (putSlots (namesFrom 0 vs.length) vs++us)else none
  |_,_=>none
 |_,_=>none
def evF(E:Env):Nat->FuncId->List FV->Res
 |0=>λ_ _=>none
 |n+1=>λf L=>match E.ext f with
  |some g=>g L
  |none=>evFb E (evF E n) n f L
def sub:Code->List Nat->Code
 |c,[]=>c
 |.seq a b,i::p=>bif Nat.beq i 0 then sub a p else sub b p
 |.cond _ a b,i::p=>bif Nat.beq i 0 then sub a p else sub b p
 |.block _ c,_::p=>sub c p
 |.scope c,_::p=>sub c p
 |.loop c,_::p=>sub c p
 |_,_=>.skip
section
variable (E:Env) (call:FuncId->List FV->Res) (an:Ann) (n:Nat)
def ctxK:Code->List Nat->List Nat->Kont->Kont
 |.seq a b,i::p,ms,K=>bif Nat.beq i 0 then ctxK a p ms (kSeq (evC E call an n b K) K)else ctxK b p ms K
 |.cond _ a b,i::p,ms,K=>bif Nat.beq i 0 then ctxK a p ms K else ctxK b p ms K
 |.block id c,_::p,ms,K=>ctxK c p ms (kBlock id K)
 |.scope c,_::p,ms,K=>ctxK c p ms K
 |.loop c,_::p,m::ms,K=>ctxK c p ms (kSeq (λM'=>prune an (q4h c) M' (evLoop (q4h c) (λK' M'=>evC E call an n c K' M') K (prune an (q4h c)) m)) K)
 |_,_,_,K=>K
end
def Lp(E:Env)(n:Nat)(f:FuncId)(path ms:List Nat)(m:Nat)(L:List FV):Res :=
 match E.fn f,E.fc f with
 |some i,some fn=>match fn.body with
  |some c=>match sub c path with
   |.loop b=>match annAt i.ann (q4h b)with
    |some (ts,T)=>evLoop (q4h b) (λK' M'=>evC E (evF E n) i.ann n b K' M')
      (ctxK E (evF E n) i.ann n c path ms (kRet E fn i (ownIn i.tin 0))) (prune i.ann (q4h b)) m (memOf ts T L)
    |none=>none
   |_=>none
  |none=>none
 |_,_=>none
where
 ownIn (T:List Tok) (_:Nat):List SV:=match bld (namesFrom 1000 (owns T)) 0 T (T.flatMap λt=>match t with | .own sz=>[.list sz []] | .fpt sz=>[.ref sz (.agg [])] | .skip | .obj _ | .ref _ | .agg _ | .clo _ _=>[] | .mapt _ _ _=>[.list 3 [],.int .i64 0] | _=>[.agg []])with
  |some (_,vs,_)=>vs.map kept
  |none=>[]
theorem qSx(m:Nat)(h:1<=m:=by omega):∃k,m=k+1:=⟨m-1,by omega⟩
abbrev iI(z:Int):FV:=.int .i64 z
abbrev iL(l:List FV):FV:=.list 1 l
abbrev k26(a:Int)(b:Int)(c:List FV)(d:Int)(e:Int)(f:List FV)(g:List FV)(h:List FV)(i:List FV)(j:List FV)(k:List FV)(l:ByteArray)(m:ByteArray)(n:Bool)(o:Int)(p:List FV)(q:List FV)(r:List FV)(s:List FV)(t:Bool)(u:List FV)(v:Bool)(w:List FV)(x:Bool)(y:List FV)(z:Bool)(r':List FV):List FV:=iI a::iI b::FV.list 3 c::iI d::iI e::FV.list 7 f::FV.list 8 g::iL h::iL i::iL j::iL k::FV.str l::FV.str m::FV.bool n::iI o::FV.list 4 p::iL q::iL r::iL s::FV.bool t::iL u::FV.bool v::iL w::FV.bool x::iL y::FV.bool z::r'
abbrev k15(a:Int)(b:Int)(c:List FV)(d:Int)(e:Int)(f:List FV)(g:List FV)(h:List FV)(i:List FV)(j:List FV)(k:List FV)(l:ByteArray)(m:ByteArray)(n:Bool)(o:Int)(r':List FV):List FV:=iI a::iI b::FV.list 3 c::iI d::iI e::FV.list 7 f::FV.list 8 g::iL h::iL i::iL j::iL k::FV.str l::FV.str m::FV.bool n::iI o::r'
abbrev k8(a:List FV)(b:List FV)(c:List FV)(d:List FV)(e:ByteArray)(f:ByteArray)(g:Bool)(h:Int)(r':List FV):List FV:=iL a::iL b::iL c::iL d::FV.str e::FV.str f::FV.bool g::iI h::r'
abbrev kB(a:ByteArray)(b:Int)(c:Int)(d:Bool)(e:Int)(f:List FV)(g:Int)(h:Int)(r':List FV):List FV:=FV.str a::iI b::iI c::FV.bool d::iI e::iL f::iI g::iI h::r'
abbrev kS(a:ByteArray)(b:Int)(c:Int)(d:Int)(e:Bool)(f:Int)(g:Int)(r':List FV):List FV:=FV.str a::iI b::iI c::iI d::FV.bool e::iI f::iI g::r'
abbrev k7(a:Int)(b:Int)(c:List FV)(d:Int)(e:Int)(f:List FV)(g:List FV)(r':List FV):List FV:=iI a::iI b::FV.list 3 c::iI d::iI e::FV.list 7 f::FV.list 8 g::r'
abbrev k5(a:Int)(b:Int)(c:List FV)(d:Int)(e:Int)(r':List FV):List FV:=iI a::iI b::FV.list 3 c::iI d::iI e::r'
abbrev kQ(a:Bool)(b:List FV)(c:Bool)(d:List FV)(r':List FV):List FV:=FV.bool a::iL b::FV.bool c::iL d::r'
abbrev r27(r:List FV)(f:Int->Int->List FV->Int->Int->List FV->List FV->List FV->List FV->List FV->List FV->ByteArray->ByteArray->Bool->Int->List FV->List FV->List FV->List FV->Bool->List FV->Bool->List FV->Bool->List FV->Bool->Bool->Res):Res:=(asInt .i64 r[0]?).bind λx0=>(asInt .i64 r[1]?).bind λx1=>(asLst 3 r[2]?).bind λx2=>(asInt .i64 r[3]?).bind λx3=>(asInt .i64 r[4]?).bind λx4=>(asLst 7 r[5]?).bind λx5=>(asLst 8 r[6]?).bind λx6=>(asLst 1 r[7]?).bind λx7=>(asLst 1 r[8]?).bind λx8=>(asLst 1 r[9]?).bind λx9=>(asLst 1 r[10]?).bind λx10=>(asStr r[11]?).bind λx11=>(asStr r[12]?).bind λx12=>(asBool r[13]?).bind λx13=>(asInt .i64 r[14]?).bind λx14=>(asLst 4 r[15]?).bind λx15=>(asLst 1 r[16]?).bind λx16=>(asLst 1 r[17]?).bind λx17=>(asLst 1 r[18]?).bind λx18=>(asBool r[19]?).bind λx19=>(asLst 1 r[20]?).bind λx20=>(asBool r[21]?).bind λx21=>(asLst 1 r[22]?).bind λx22=>(asBool r[23]?).bind λx23=>(asLst 1 r[24]?).bind λx24=>(asBool r[25]?).bind λx25=>(asBool r[26]?).bind λx26=>f x0 x1 x2 x3 x4 x5 x6 x7 x8 x9 x10 x11 x12 x13 x14 x15 x16 x17 x18 x19 x20 x21 x22 x23 x24 x25 x26
end Rf
end
namespace Rf
open Go
section
inductive All2{α β:Type}(R:α->β->Prop):List α->List β->Prop
 |nil:All2 R [] []
 |cons {x:α} {y:β} {xs:List α} {ys:List β} (h:R x y) (t:All2 R xs ys):All2 R (x::xs) (y::ys)
theorem All2.mono{α β:Type}{R R':α->β->Prop}(hR:∀x y,R x y->R' x y){xs:List α}{ys:List β}(h:All2 R xs ys):All2 R' xs ys:=by
 induction h with
 |nil=>exact .nil
 |cons h _ ih=>exact .cons (hR _ _ h) ih
theorem All2.app{α β:Type}{R:α->β->Prop}{xs xs':List α}{ys ys':List β}(h:All2 R xs ys)(k:All2 R xs' ys'):All2 R (xs++xs') (ys++ys'):=by
 induction h with
 |nil=>exact k
 |cons h _ ih=>exact .cons h ih
theorem All2.len{α β:Type}{R:α->β->Prop}{xs:List α}{ys:List β}(h:All2 R xs ys):xs.length=ys.length:=by
 induction h with
 |nil=>rfl
 |cons _ _ ih=>simp[ih]
theorem All2.get{α β:Type}{R:α->β->Prop}{xs:List α}{ys:List β}(h:All2 R xs ys):∀(j:Nat) (x:α),xs[j]?=some x->∃y,ys[j]?=some y/\R x y:=by
 induction h with
 |nil=>intro j x hj;simp at hj
 |cons h _ ih =>
  intro j x hj;cases j with
  |zero=>simp at hj;subst hj;exact⟨_,rfl,h⟩
  |succ j=>simpa using ih j x (by simpa using hj)
theorem All2.of{α β:Type}{R:α->β->Prop}:∀ {xs:List α} {ys:List β},xs.length=ys.length->(∀(j:Nat) (x:α) (y:β),xs[j]?=some x->ys[j]?=some y->R x y)->All2 R xs ys
 |[],[],_,_=>.nil
 |[],_::_,h,_=>by simp at h
 |_::_,[],h,_=>by simp at h
 |x::xs,y::ys,h,k=>.cons (k 0 x y rfl rfl) (All2.of (by simpa using h) λj x' y' h1 h2=>k (j+1) x' y' (by simpa using h1) (by simpa using h2))
theorem All2.drop{α β:Type}{R:α->β->Prop}{xs:List α}{ys:List β}(h:All2 R xs ys):∀n,All2 R (xs.drop n) (ys.drop n):=by
 induction h with
 |nil=>intro n;simp;exact .nil
 |cons h t ih =>
  intro n;cases n with
  |zero=>exact .cons h t
  |succ n=>simpa using ih n
theorem All2.take{α β:Type}{R:α->β->Prop}{xs:List α}{ys:List β}(h:All2 R xs ys):∀n,All2 R (xs.take n) (ys.take n):=by
 induction h with
 |nil=>intro n;simp;exact .nil
 |cons h t ih =>
  intro n;cases n with
  |zero=>exact .nil
  |succ n=>simpa using .cons h (ih n)
theorem All2.ofArr{R:SV->Value->Prop}{cs:List SV}{vs:Array Value}(hl:vs.size=cs.length)(h:∀(j:Nat) (s:SV),cs[j]?=some s->R s (vs.getD j undef)):All2 R cs vs.toList :=
 .of (by simpa using hl.symm) λj s v hs hv=>by
  have:=h j s hs;rwa[Az,<- By,hv,Bg]at this
theorem All2.toArr{R:SV->Value->Prop}{cs:List SV}{vs:Array Value}(h:All2 R cs vs.toList):vs.size=cs.length/\∀(j:Nat) (s:SV),cs[j]?=some s->R s (vs.getD j undef) :=
 ⟨by have:=h.len;simp at this;omega,λj s hs=>by
  obtain⟨y,h1,h2⟩:=h.get j s hs
  rw[Az,<- By,h1,Bg];exact h2⟩
def cellAt(w:World)(b i:Nat):Option Value:=w.cell? ⟨b,i,none⟩
theorem q5l{w:World}{b i:Nat}{c:Array Value}{e:TypeId}{f:Nat×Nat}(h:w.heap[b]?=some (.cells c e f)):cellAt w b i=c[i]?:=by
 simp[cellAt,World.cell?,h]
theorem q9o{w w':World}{b:Nat}(h:w'.heap[b]?=w.heap[b]?)(i:Nat):cellAt w' b i=cellAt w b i:=by
 simp[cellAt,World.cell?,h]
def El(sz:Nat)(x:FV):Prop:=x.cells.length=sz/\∀c,c∈x.cells->c.flat=true
inductive FRep(w:World)(S:Nat->Prop):FV->Value->Prop
 |int (k:IntKind) (n:Int):FRep w S (.int k n) (.int k n)
 |bool (b:Bool):FRep w S (.bool b) (.bool b)
 |str (s:ByteArray):FRep w S (.str s) (.string s)
 |raw (v:Value):FRep w S (.raw v) v
 |agg (cs:List FV) (vs:Array Value) (hs:vs.size=cs.length) (h:∀j c,cs[j]?=some c->FRep w S c (vs.getD j undef)):FRep w S (.agg cs) (.agg vs)
 |list (sz:Nat) (xs:List FV) (a:Option Addr) (cap b o:Nat) (hc:xs.length<=cap) (hsz:∀x,x∈xs->El sz x)
   (ha:xs≠[]->a=some ⟨b,o,none⟩/\S b)
   (hv:∀i j x c,xs[i]?=some x->x.cells[j]?=some c->(cellAt w b (o+(i*sz+j))).isSome=true)
   (hr:∀i j x c,xs[i]?=some x->x.cells[j]?=some c->FRep w S c ((cellAt w b (o+(i*sz+j))).getD undef)) :
   FRep w S (.list sz xs) (.slice a xs.length cap)
 |ref (sz:Nat) (x:FV) (b o:Nat) (hS:S b) (hsz:El sz x) (hv:∀j c,x.cells[j]?=some c->(cellAt w b (o+j)).isSome=true)
   (hr:∀j c,x.cells[j]?=some c->FRep w S c ((cellAt w b (o+j)).getD undef)):FRep w S (.ref sz x) (.pointer (some ⟨b,o,none⟩))
def Row(w:World)(S:Nat->Prop)(b o sz:Nat)(xs:List FV):Prop :=
 (∀x,x∈xs->El sz x)/\∀i j x c,xs[i]?=some x->x.cells[j]?=some c->∃v,cellAt w b (o+(i*sz+j))=some v/\FRep w S c v
theorem FRep.q38{w:World}{S:Nat->Prop}{sz:Nat}{xs:List FV}{v:Value} :
  FRep w S (.list sz xs) v↔∃a cap b o,v=.slice a xs.length cap/\xs.length<=cap/\(xs≠[]->a=some ⟨b,o,none⟩/\S b)/\Row w S b o sz xs:=by
 constructor
 ·intro h;cases h with
  |list sz xs a cap b o hc hsz ha hv hr =>
   refine⟨a,cap,b,o,rfl,hc,ha,hsz,λi j x c h1 h2=>?_⟩;have h3:=hv i j x c h1 h2;have h4:=hr i j x c h1 h2;cases h5:cellAt w b (o+(i*sz+j))with
   |none=>simp[h5]at h3
   |some v=>exact⟨v,rfl,by simpa[h5]using h4⟩
 ·rintro⟨a,cap,b,o,rfl,hc,ha,hsz,hr⟩;refine .list sz xs a cap b o hc hsz ha (λi j x c h1 h2=>?_) (λi j x c h1 h2=>?_)
  ·obtain⟨v,h3,_⟩:=hr i j x c h1 h2;simp[h3]
  ·obtain⟨v,h3,h4⟩:=hr i j x c h1 h2;simpa[h3]using h4
theorem FRep.qg7{w:World}{S:Nat->Prop}{sz:Nat}{x:FV}{v:Value}:FRep w S (.ref sz x) v↔∃b o,v=.pointer (some ⟨b,o,none⟩)/\S b/\Row w S b o sz [x]:=by
 constructor
 ·intro h;cases h with
  |ref sz x b o hS hsz hv hr =>
   refine⟨b,o,rfl,hS,λy hy=>by rw[BN.1 hy];exact hsz,λi j y c h1 h2=>?_⟩;cases i with
   |succ i=>simp at h1
   |zero =>
    simp only[Aj,AH]at h1;subst h1;have h3:=hv j c h2;have h4:=hr j c h2;rw[show 0*sz+j=j by omega];cases h5:cellAt w b (o+j)with
    |none=>simp[h5]at h3
    |some v=>exact⟨v,rfl,by simpa[h5]using h4⟩
 ·rintro⟨b,o,rfl,hS,hsz,hr⟩;refine .ref sz x b o hS (hsz x (by simp)) (λj c h=>?_) (λj c h=>?_)
  ·obtain⟨v,h3,_⟩:=hr 0 j x c rfl h;rw[show 0*sz+j=j by omega]at h3;simp[h3]
  ·obtain⟨v,h3,h4⟩:=hr 0 j x c rfl h;rw[show 0*sz+j=j by omega]at h3;simpa[h3]using h4
theorem FRep.mono{w w':World}{S S':Nat->Prop}(hw:∀b,S b->w'.heap[b]?=w.heap[b]?)(hS:∀b,S b->S' b){x:FV}{v:Value}(h:FRep w S x v):FRep w' S' x v:=by
 induction h with
 |int k n=>exact .int k n
 |bool b=>exact .bool b
 |str s=>exact .str s
 |raw v=>exact .raw v
 |agg cs vs hs _ ih=>exact .agg cs vs hs ih
 |list sz xs a cap b o hc hsz ha hv _ ih =>
  have hb:∀(i:Nat) (x:FV),xs[i]?=some x->w'.heap[b]?=w.heap[b]?:=λi x hx=>hw b (ha (by intro h0;simp[h0]at hx)).2;refine .list sz xs a cap b o hc hsz (λh=>⟨(ha h).1,hS _ (ha h).2⟩) (λi j x c h1 h2=>?_) (λi j x c h1 h2=>?_)
  ·rw[q9o (hb i x h1)];exact hv i j x c h1 h2
  ·rw[q9o (hb i x h1)];exact ih i j x c h1 h2
 |ref sz x b o hs hsz hv _ ih =>
  refine .ref sz x b o (hS _ hs) hsz (λj c h=>?_) (λj c h=>?_)
  ·rw[q9o (hw b hs)];exact hv j c h
  ·rw[q9o (hw b hs)];exact ih j c h
theorem Row.mono{w w':World}{S S':Nat->Prop}{b o sz:Nat}{xs:List FV}(hw:∀b,S b->w'.heap[b]?=w.heap[b]?)(hS:∀b,S b->S' b)(hb:w'.heap[b]?=w.heap[b]?)(h:Row w S b o sz xs) :
  Row w' S' b o sz xs :=
 ⟨h.1,λi j x c h1 h2=>let ⟨v,h3,h4⟩:=h.2 i j x c h1 h2;⟨v,by rw[q9o hb];exact h3,h4.mono hw hS⟩⟩
structure Gh where
 blk:Nat
 off:Nat
 cap:Nat
 nil:Bool
def Gh.base(g:Gh):Option Addr:=if g.nil then none else some ⟨g.blk,g.off,none⟩
inductive ObK where
 |n (k:Nat)
 |m (kag:Bool) (ks:List CK) (z:FV)
def Ent.ob:Ent->Option ObK
 |.obj n=>some (.n n)
 |.mapH kag ks z=>some (.m kag ks z)
 |_=>none
def SV.refId:SV->Option Nat
 |.ptr id _ | .ept id _ _ _ | .sl id _ | .mp id=>some id
 |_=>none
inductive SRep(w:World)(S:Nat->Prop)(γ:Nat->Gh)(hd:Nat->Option Ent):SV->Value->Prop
 |fv {x:FV} {v:Value} (h:FRep w S x v):SRep w S γ hd (.fv x) v
 |nilS:SRep w S γ hd .nilS (.slice none 0 0)
 |mp {id:Nat} {e:Ent} {kag:Bool} {ks:List CK} {z:FV} (h:hd id=some e) (he:e.ob=some (.m kag ks z)):SRep w S γ hd (.mp id) (.map (some (γ id).blk))
 |ptr {id off:Nat} {e:Ent} {n:Nat} (h:hd id=some e) (he:e.ob=some (.n n)):SRep w S γ hd (.ptr id off) (.pointer (some ⟨(γ id).blk,off,none⟩))
 |ept {id sz i c len:Nat} {e:Ent} (h:hd id=some e) (he:e.row=some (sz,len)) (hn:(γ id).nil=false) (hi:i<len) :
   SRep w S γ hd (.ept id sz i c) (.pointer (some ⟨(γ id).blk,(γ id).off+(i*sz+c),none⟩))
 |sl {id sz len:Nat} {e:Ent} (h:hd id=some e) (he:e.row=some (sz,len)):SRep w S γ hd (.sl id none) (.slice (γ id).base len (γ id).cap)
 |view {id sz len o n c:Nat} {e:Ent} {a:Option Addr} (h:hd id=some e) (he:e.row=some (sz,len)) (hon:o+n<=len) (hc:n<=c)
   (ha:n≠0->(γ id).nil=false/\a=some ⟨(γ id).blk,(γ id).off+o*sz,none⟩) (h0:o=0->a=(γ id).base/\c=(γ id).cap) :
   SRep w S γ hd (.sl id (some (o,n))) (.slice a n c)
 |fp {sz i c b o:Nat} {xs:List FV} (hS:S b) (hr:Row w S b o sz xs) (hi:i<xs.length) :
   SRep w S γ hd (.fp sz xs i c) (.pointer (some ⟨b,o+(i*sz+c),none⟩))
 |clo {fn:Fn} {fs cs:List SV} {f c:Array Value} (hf:f.size=fs.length) (hc:c.size=cs.length)
   (h1:∀j s,fs[j]?=some s->SRep w S γ hd s (f.getD j undef)) (h2:∀j s,cs[j]?=some s->SRep w S γ hd s (c.getD j undef)) :
   SRep w S γ hd (.clo fn fs cs) (.func fn f c)
 |agg {cs:List SV} {vs:Array Value} (hs:vs.size=cs.length) (h:∀j s,cs[j]?=some s->SRep w S γ hd s (vs.getD j undef)):SRep w S γ hd (.agg cs) (.agg vs)
 |tup {cs:List SV} {vs:Array Value} (hs:vs.size=cs.length) (h:∀j s,cs[j]?=some s->SRep w S γ hd s (vs.getD j undef)):SRep w S γ hd (.tup cs) (.tuple vs)
 |dead {v:Value}:SRep w S γ hd .dead v
 |gone:SRep w S γ hd .gone undef
 |tomb {s:SV} {id:Nat} {v:Value} (hs:s.refId=some id) (h:hd id=some .tomb):SRep w S γ hd s v
def HdLe(hd hd':Nat->Option Ent)(γ γ':Nat->Gh):Prop :=
 ∀id e,hd id=some e->∃e',hd' id=some e'/\(e'=.tomb\/(e'.row=e.row/\e'.ob=e.ob/\(e=.tomb->e'=.tomb)/\γ' id=γ id))
theorem HdLe.refl(hd:Nat->Option Ent)(γ:Nat->Gh):HdLe hd hd γ γ:=λ_ e h=>⟨e,h,.inr ⟨rfl,rfl,id,rfl⟩⟩
theorem SRep.mono{w w':World}{S S':Nat->Prop}{γ γ':Nat->Gh}{hd hd':Nat->Option Ent}(hw:∀b,S b->w'.heap[b]?=w.heap[b]?)(hS:∀b,S b->S' b)(hh:HdLe hd hd' γ γ')
  {s:SV} {v:Value} (h:SRep w S γ hd s v):SRep w' S' γ' hd' s v:=by
 induction h with
 |fv h=>exact .fv (h.mono hw hS)
 |nilS=>exact .nilS
 |@ptr id off e n h he =>
  obtain⟨e',h',k⟩:=hh id e h;rcases k with rfl | ⟨k1,k2,k3,k4⟩
  ·exact .tomb rfl h'
  ·rw[<- k4];exact .ptr h' (k2.trans he)
 |@mp id e kag ks z h he =>
  obtain⟨e',h',k⟩:=hh id e h;rcases k with rfl | ⟨k1,k2,k3,k4⟩
  ·exact .tomb rfl h'
  ·rw[<- k4];exact .mp h' (k2.trans he)
 |@ept id sz i c len e h he hn hi =>
  obtain⟨e',h',k⟩:=hh id e h;rcases k with rfl | ⟨k1,k2,k3,k4⟩
  ·exact .tomb rfl h'
  ·rw[<- k4];exact .ept h' (k1.trans he) (by rw[k4];exact hn) hi
 |@sl id sz len e h he =>
  obtain⟨e',h',k⟩:=hh id e h;rcases k with rfl | ⟨k1,k2,k3,k4⟩
  ·exact .tomb rfl h'
  ·rw[<- k4];exact .sl h' (k1.trans he)
 |@view id sz len o n c e a h he hon hc ha h0 =>
  obtain⟨e',h',k⟩:=hh id e h;rcases k with rfl | ⟨k1,k2,k3,k4⟩
  ·exact .tomb rfl h'
  ·exact .view h' (k1.trans he) hon hc (by rw[k4];exact ha) (by rw[k4];exact h0)
 |@fp sz i c b o xs hb hr hi=>exact .fp (hS _ hb) (hr.mono hw hS (hw b hb)) hi
 |clo hf hc _ _ ih1 ih2=>exact .clo hf hc ih1 ih2
 |agg hs _ ih=>exact .agg hs ih
 |tup hs _ ih=>exact .tup hs ih
 |dead=>exact .dead
 |gone=>exact .gone
 |@tomb s id v hs h =>
  obtain⟨e',h',k⟩:=hh id _ h;rcases k with rfl | ⟨k1,k2,k3,k4⟩
  ·exact .tomb hs h'
  ·exact .tomb hs (by rw[h',k3 rfl])
def hdOf(M:Mem)(id:Nat):Option Ent:=Mem.get (.head id) M
theorem Key.beq_iff(a b:Key):a.beq b=true↔a=b:=by
 cases a <;> cases b <;> simp[Key.beq]
theorem Mem.qj(k k':Key)(e:Ent)(M:Mem):Mem.get k ((k',e)::M)=if k=k' then some e else Mem.get k M:=by
 simp only[Mem.get];by_cases h:k=k'
 ·rw[if_pos h,(Key.beq_iff k k').2 h];rfl
 ·rw[if_neg h];have:k.beq k'=false:=by
   cases hb:k.beq k' with
   |false=>rfl
   |true=>exact absurd ((Key.beq_iff k k').1 hb) h
  rw[this];rfl
theorem Mem.get_append(k:Key)(us M:Mem):Mem.get k (us++M)=(Mem.get k us).or (Mem.get k M):=by
 induction us with
 |nil=>simp[Mem.get]
 |cons p us ih =>
  obtain⟨k',e⟩:=p;rw[Al,Mem.qj,Mem.qj,ih];split <;> simp
def ERep(w:World)(S:Nat->Prop)(kag:Bool)(ks:List CK)(z:FV)(x:FV)(e:MapEntry):Prop :=
 ∃k v,x=.agg [k,v,.int .i64 e.born]/\q2m kag ks k=true/\q3a z v=true/\FRep w S k e.key/\FRep w S v e.val
theorem ERep.mono{w w':World}{S S':Nat->Prop}{kag:Bool}{ks:List CK}{z x:FV}{e:MapEntry}(hw:∀b,S b->w'.heap[b]?=w.heap[b]?)(hS:∀b,S b->S' b)(h:ERep w S kag ks z x e):ERep w' S' kag ks z x e :=
 let ⟨k,v,a,b,c,d,f⟩:=h;⟨k,v,a,b,c,d.mono hw hS,f.mono hw hS⟩
def MRep(w:World)(S:Nat->Prop)(g:Gh)(kag:Bool)(ks:List CK)(z:FV)(es:List FV)(clk:Int):Prop :=
 ∃(arr:Array MapEntry) (c:Nat),w.heap[g.blk]?=some (.map arr c)/\clk=c/\MapKept.Stamped arr c/\q3a z z=true/\All2 (ERep w S kag ks z) es arr.toList
theorem MRep.mono{w w':World}{S S':Nat->Prop}{g:Gh}{kag:Bool}{ks:List CK}{z:FV}{es:List FV}{clk:Int}(hw:∀b,S b->w'.heap[b]?=w.heap[b]?)(hS:∀b,S b->S' b)(hb:w'.heap[g.blk]?=w.heap[g.blk]?)
  (h:MRep w S g kag ks z es clk):MRep w' S' g kag ks z es clk :=
 let ⟨arr,c,a,b,d,dz,e⟩:=h;⟨arr,c,hb.trans a,b,d,dz,e.mono λ_ _ q=>q.mono hw hS⟩
def ORep(w:World)(S:Nat->Prop)(γ:Nat->Gh)(M:Mem)(id:Nat):Ent->Prop
 |.obj n=>(γ id).nil=false/\∃vals e,w.heap[(γ id).blk]?=some (.cells vals e (0,0))/\vals.size=n /\
   ∀j,j<n->∃s,Mem.get (.cell id j) M=some (.sv s)/\s.flat=true/\SRep w S γ (hdOf M) s (vals.getD j undef)
 |.vec sz xs=>xs.length<=(γ id).cap/\(if(γ id).nil=true then xs=[]/\(γ id).cap=0 else
   ∃vals e,w.heap[(γ id).blk]?=some (.cells vals e (0,0))/\(γ id).off+(γ id).cap*sz<=vals.size/\Row w S (γ id).blk (γ id).off sz xs)
 |.frz sz xs=>xs.length<=(γ id).cap/\(if(γ id).nil=true then xs=[]/\(γ id).cap=0 else(S (γ id).blk/\Row w S (γ id).blk (γ id).off sz xs))
 |.mapH kag ks z=>(γ id).nil=false/\∃es clk es' clk',Mem.get (.cell id 0) M=some (.map es clk)/\Mem.get (.cell id 1) M=some (.map es' clk')/\(∀k,mgetD es' k z=mgetD es k z)/\MRep w S (γ id) kag ks z es clk
 |.tomb=>True
 |_=>False
def Owned(γ:Nat->Gh)(id:Nat):Ent->Prop
 |.obj _=>True
 |.mapH _ _ _=>True
 |.vec _ _=>(γ id).nil=false
 |_=>False
structure Cx where
 w0:World
 S0:Nat->Prop
 W0:Nat->Prop
 nt:Nat
 pin:Nat->Option Value
def Cx.Dst(X:Cx)(d:Nat):Prop:=d<X.nt/\X.pin d=none
def Tabs(w:World)(S:Nat->Prop):Prop:=∀g cs,(g,cs)∈tabs->S g/\∃e t,w.heap[g]?=some (.cells cs e t)
def TabOk(X:Cx):Prop:=Tabs X.w0 X.S0/\∀b,X.W0 b->¬ X.S0 b
structure Keep(X:Cx)(w:World)(S:Nat->Prop):Prop where
 size:X.w0.heap.size<=w.heap.size
 block:∀b,b<X.w0.heap.size->¬ X.W0 b->w.heap[b]?=X.w0.heap[b]?
 os:w.os=X.w0.os
 tape:w.tape=X.w0.tape
 output:w.output=X.w0.output
 bound:∀b,S b->b<w.heap.size
 smon:∀b,X.S0 b->S b
 q8l:∀b,S b->X.S0 b\/X.W0 b\/X.w0.heap.size<=b
 tab:TabOk X
theorem Keep.tabs{X:Cx}{w:World}{S:Nat->Prop}(h:Keep X w S):Tabs w S:=λg cs hg=>by
 obtain⟨h1,e,t,h2⟩:=h.tab.1 g cs hg;have hlt:g<X.w0.heap.size:=by
  rcases Dn g X.w0.heap.size with q | q
  ·exact q
  ·rw[Dj q]at h2;cases h2
 exact⟨h.smon g h1,e,t,(h.block g hlt λq=>h.tab.2 g q h1).trans h2⟩
structure HRel(X:Cx)(M:Mem)(w:World)(γ:Nat->Gh)(S:Nat->Prop):Prop where
 keep:Keep X w S
 head:∀id e,hdOf M id=some e->ORep w S γ M id e
 own:∀id e,hdOf M id=some e->Owned γ id e->(γ id).blk<w.heap.size/\¬ S (γ id).blk/\(X.W0 (γ id).blk\/X.w0.heap.size<=(γ id).blk)
 inj:∀id e id' e',hdOf M id=some e->hdOf M id'=some e'->Owned γ id e->Owned γ id' e'->(γ id).blk=(γ id').blk->id=id'
structure Rel(X:Cx)(M:Mem)(a:Act)(w:World)(γ:Nat->Gh)(S:Nat->Prop):Prop extends HRel X M w γ S where
 nt:a.tmps.size=X.nt
 q2p:a.defers=[]
 pin:∀t v,X.pin t=some v->a.tmps.getD t undef=v
 slot:∀t s,Mem.get (.slot t) M=some (.sv s)->SRep w S γ (hdOf M) s (a.tmps.getD t undef)
theorem ORep.congr{w:World}{S:Nat->Prop}{γ:Nat->Gh}{M M':Mem}(h:∀k,Mem.get k M'=Mem.get k M){id:Nat}{e:Ent}(ho:ORep w S γ M id e):ORep w S γ M' id e:=by
 have hh:hdOf M'=hdOf M:=funext λid=>h _;cases e with
 |obj n =>
  obtain⟨h0,vals,e,h1,h2,h3⟩:=ho;exact⟨h0,vals,e,h1,h2,λj hj=>let ⟨s,a,b,c⟩:=h3 j hj;⟨s,(h _).trans a,b,by rw[hh];exact c⟩⟩
 |mapH kag ks z =>
  obtain⟨h0,es,clk,es',clk',h1,h2,h3⟩:=ho;exact⟨h0,es,clk,es',clk',(h _).trans h1,(h _).trans h2,h3⟩
 |_=>exact ho
theorem Rel.congr{X:Cx}{M M':Mem}{a:Act}{w:World}{γ:Nat->Gh}{S:Nat->Prop}(h:∀k,Mem.get k M'=Mem.get k M)(hR:Rel X M a w γ S):Rel X M' a w γ S:=by
 have hh:hdOf M'=hdOf M:=funext λid=>h _
 exact { keep:=hR.keep,head:=λid e he=>(hR.head id e (by rw[<- hh];exact he)).congr h,own:=λid e he=>hR.own id e (by rw[<- hh];exact he),
         inj:=λid e id' e' h1 h2=>hR.inj id e id' e' (by rw[<- hh];exact h1) (by rw[<- hh];exact h2),nt:=hR.nt,q2p:=hR.q2p,pin:=hR.pin,
         slot:=λt s hs=>by rw[hh];exact hR.slot t s (by rw[<- h];exact hs) }
theorem FRep.drawn{w:World}{S:Nat->Prop}{n:Nat}{x:FV}{v:Value}(h:FRep w S x v):FRep { w with drawn:=n } S x v:=h.mono (w:=w) (w':={ w with drawn:=n }) (λ_ _=>rfl) (λ_ h=>h)
theorem ORep.mono{w w':World}{S S':Nat->Prop}{γ:Nat->Gh}{M:Mem}(hw:∀b,S b->w'.heap[b]?=w.heap[b]?)(hS:∀b,S b->S' b){id:Nat}{e:Ent}
  (hb:Owned γ id e->w'.heap[(γ id).blk]?=w.heap[(γ id).blk]?) (ho:ORep w S γ M id e):ORep w' S' γ M id e:=by
 cases e with
 |obj n =>
  obtain⟨h0,vals,e,h1,h2,h3⟩:=ho;exact⟨h0,vals,e,(hb trivial).trans h1,h2,λj hj=>let ⟨s,a,b,c⟩:=h3 j hj;⟨s,a,b,c.mono hw hS (HdLe.refl _ _)⟩⟩
 |vec sz xs =>
  refine⟨ho.1,?_⟩;have h2:=ho.2;split
  ·rename_i hn;rw[if_pos hn]at h2;exact h2
  ·rename_i hn;rw[if_neg hn]at h2;have hn':(γ id).nil=false:=by simpa using hn
   obtain⟨vals,e,h1,h3,h4⟩:=h2;exact⟨vals,e,(hb hn').trans h1,h3,h4.mono hw hS (hb hn')⟩
 |frz sz xs =>
  refine⟨ho.1,?_⟩;have h2:=ho.2;split
  ·rename_i hn;rw[if_pos hn]at h2;exact h2
  ·rename_i hn;rw[if_neg hn]at h2;exact⟨hS _ h2.1,h2.2.mono hw hS (hw _ h2.1)⟩
 |mapH kag ks z =>
  obtain⟨h0,es,clk,es',clk',h1,h2,h3,h4⟩:=ho;exact⟨h0,es,clk,es',clk',h1,h2,h3,h4.mono hw hS (hb trivial)⟩
 |tomb=>trivial
 |sv _=>exact ho
 |map _ _=>exact ho
theorem Rel.drew{X:Cx}{M:Mem}{a:Act}{w:World}{γ:Nat->Gh}{S:Nat->Prop}(h:Rel X M a w γ S)(n:Nat):Rel X M a { w with drawn:=n } γ S :=
 { keep:=⟨h.keep.size,h.keep.block,h.keep.os,h.keep.tape,h.keep.output,h.keep.bound,h.keep.smon,h.keep.q8l,h.keep.tab⟩
   head:=λid e he=>(h.head id e he).mono (w:=w) (w':={ w with drawn:=n }) (λ_ _=>rfl) (λ_ h=>h) (λ_=>rfl)
   own:=h.own,inj:=h.inj,nt:=h.nt,q2p:=h.q2p,pin:=h.pin
   slot:=λt s hs=>(h.slot t s hs).mono (w:=w) (w':={ w with drawn:=n }) (λ_ _=>rfl) (λ_ h=>h) (HdLe.refl _ _) }
theorem qk2{a:Act}{d t:Nat}{v:Value}(hd:d<a.tmps.size):(a.put (some d) v).tmps.getD t undef=if t=d then v else a.tmps.getD t undef:=by
 simp only[Act.put,Az];by_cases h:t=d
 ·subst h;simp[hd]
 ·rw[if_neg h,DD (BO h)]
theorem Rel.put{X:Cx}{M:Mem}{a:Act}{w:World}{γ:Nat->Gh}{S:Nat->Prop}(h:Rel X M a w γ S){d:Nat}(hd:X.Dst d){s:SV}{v:Value}(hs:SRep w S γ (hdOf M) s v) :
  Rel X ((.slot d,.sv s)::M) (a.put (some d) v) w γ S:=by
 have hk:∀k,(∀t,k≠.slot t)->Mem.get k ((.slot d,.sv s)::M)=Mem.get k M:=λk hk=>by rw[Mem.qj,if_neg (hk d)]
 have hh:hdOf ((.slot d,.sv s)::M)=hdOf M:=funext λid=>hk _ (by intro t;simp)
 refine { keep:=h.keep,head:=λid e he=>?_,own:=λid e he=>h.own id e (by rw[<- hh];exact he),inj:=λid e id' e' h1 h2=>h.inj id e id' e' (by rw[<- hh];exact h1) (by rw[<- hh];exact h2),
          nt:=by simp[Act.put,h.nt],q2p:=h.q2p,pin:=λt v' hp=>by
            rw[qk2 (by rw[h.nt];exact hd.1),if_neg (λq=>by subst q;rw[hd.2]at hp;cases hp)];exact h.pin t v' hp
          slot:=λt s' hs'=>?_ }
 ·have ho:=h.head id e (by rw[<- hh];exact he);cases e with
  |obj n =>
   obtain⟨h0,vals,e,h1,h2,h3⟩:=ho;exact⟨h0,vals,e,h1,h2,λj hj=>let ⟨s',x,y,z⟩:=h3 j hj;⟨s',by rw[hk _ (by intro t;simp)];exact x,y,by rw[hh];exact z⟩⟩
  |mapH kag ks z =>
   obtain⟨h0,es,clk,es',clk',h1,h2,h3⟩:=ho;exact⟨h0,es,clk,es',clk',by rw[hk _ (by intro t;simp)];exact h1,by rw[hk _ (by intro t;simp)];exact h2,h3⟩
  |_=>exact ho
 ·rw[qk2 (by rw[h.nt];exact hd.1),hh];rw[Mem.qj]at hs';by_cases ht:t=d
  ·subst ht;rw[if_pos rfl]at hs';rw[if_pos rfl];cases hs';exact hs
  ·rw[if_neg (by simpa using ht)]at hs';rw[if_neg ht];exact h.slot t s' hs'
end
section
structure But(b:Nat)(w w':World):Prop where
 size:w.heap.size<=w'.heap.size
 block:∀k,k≠b->k<w.heap.size->w'.heap[k]?=w.heap[k]?
 os:w'.os=w.os
 tape:w'.tape=w.tape
 output:w'.output=w.output
theorem But.refl(b:Nat)(w:World):But b w w:=⟨Ak _,λ_ _ _=>rfl,rfl,rfl,rfl⟩
theorem But.trans{b:Nat}{u v w:World}(h:But b u v)(k:But b v w):But b u w :=
 ⟨AZ h.size k.size,λi h1 h2=>(k.block i h1 (AP h2 h.size)).trans (h.block i h1 h2),k.os.trans h.os,k.tape.trans h.tape,k.output.trans h.output⟩
theorem But.drawn(b:Nat)(w:World)(n:Nat):But b w { w with drawn:=n }:=⟨Ak _,λ_ _ _=>rfl,rfl,rfl,rfl⟩
theorem But.new(w:World)(o:Obj):But w.heap.size w { w with heap:=w.heap.push o } :=
 ⟨by simp,λk _ hk=>by simp[Array.getElem?_push,Nat.ne_of_lt hk],rfl,rfl,rfl⟩
theorem Keep.but{X:Cx}{w w':World}{S:Nat->Prop}{b:Nat}(h:Keep X w S)(hb:But b w w')(ho:X.W0 b\/X.w0.heap.size<=b):Keep X w' S where
 size:=AZ h.size hb.size
 block:=λk h1 h2=>by
  rw[hb.block k (by rintro rfl;rcases ho with ho | ho;exact h2 ho;omega) (AP h1 h.size)];exact h.block k h1 h2
 os:=hb.os.trans h.os
 tape:=hb.tape.trans h.tape
 output:=hb.output.trans h.output
 bound:=λk hk=>AP (h.bound k hk) hb.size
 smon:=h.smon
 q8l:=h.q8l
 tab:=h.tab
theorem HRel.q8m{X:Cx}{M:Mem}{w w':World}{γ:Nat->Gh}{S:Nat->Prop}{b:Nat}(h:HRel X M w γ S)(hb:But b w w')(hS:¬ S b):∀k,S k->w'.heap[k]?=w.heap[k]? :=
 λk hk=>hb.block k (by rintro rfl;exact hS hk) (h.keep.bound k hk)
def Gh.upd(γ:Nat->Gh)(id:Nat)(g:Gh):Nat->Gh:=λi=>if i=id then g else γ i
theorem Gh.q32(γ:Nat->Gh)(id:Nat)(g:Gh):Gh.upd γ id g id=g:=by simp[Gh.upd]
theorem Gh.q35(γ:Nat->Gh){id i:Nat}(g:Gh)(h:i≠id):Gh.upd γ id g i=γ i:=by simp[Gh.upd,h]
theorem Owned.congr{γ γ':Nat->Gh}{id:Nat}{e:Ent}(h:γ' id=γ id)(ho:Owned γ' id e):Owned γ id e:=by
 cases e <;> simp_all[Owned]
theorem ORep.go{w w':World}{S S':Nat->Prop}{γ γ':Nat->Gh}{M M':Mem}(hw:∀b,S b->w'.heap[b]?=w.heap[b]?)(hS:∀b,S b->S' b)(hh:HdLe (hdOf M) (hdOf M') γ γ'){id:Nat}{e:Ent}
  (hg:γ' id=γ id) (hc:∀j,Mem.get (.cell id j) M'=Mem.get (.cell id j) M) (hb:Owned γ id e->w'.heap[(γ id).blk]?=w.heap[(γ id).blk]?) (ho:ORep w S γ M id e):ORep w' S' γ' M' id e:=by
 cases e with
 |obj n =>
  obtain⟨h0,vals,e,h1,h2,h3⟩:=ho;simp only[ORep,hg];exact⟨h0,vals,e,(hb trivial).trans h1,h2,λj hj=>let ⟨s,a,b,c⟩:=h3 j hj;⟨s,(hc j).trans a,b,c.mono hw hS hh⟩⟩
 |vec sz xs =>
  simp only[ORep,hg];exact(show ORep w' S' γ M id (.vec sz xs) from ho.mono hw hS hb)
 |frz sz xs =>
  simp only[ORep,hg];exact(show ORep w' S' γ M id (.frz sz xs) from ho.mono hw hS hb)
 |mapH kag ks z =>
  obtain⟨h0,es,clk,es',clk',h1,h2,h3,h4⟩:=ho;simp only[ORep,hg];exact⟨h0,es,clk,es',clk',(hc _).trans h1,(hc _).trans h2,h3,h4.mono hw hS (hb trivial)⟩
 |tomb=>trivial
 |sv _=>exact ho
 |map _ _=>exact ho
def q43(id:Nat)(M M':Mem):Prop:=(∀i,i≠id->hdOf M' i=hdOf M i)/\(∀i j,i≠id->Mem.get (.cell i j) M'=Mem.get (.cell i j) M)/\∀t,Mem.get (.slot t) M'=Mem.get (.slot t) M
theorem Rel.gain{X:Cx}{M M':Mem}{a:Act}{w w':World}{γ:Nat->Gh}{S:Nat->Prop}(h:Rel X M a w γ S){id:Nat}{e:Ent}{g:Gh}(hf:hdOf M id=none)(hM:q43 id M M')
  (he:hdOf M' id=some e) (hb:But g.blk w w') (hS:¬ S g.blk) (hn:∀i e,hdOf M i=some e->Owned γ i e->(γ i).blk≠g.blk) (hl:g.blk<w'.heap.size)
  (hx:X.W0 g.blk\/X.w0.heap.size<=g.blk) (ho:HdLe (hdOf M) (hdOf M') γ (Gh.upd γ id g)->ORep w' S (Gh.upd γ id g) M' id e):Rel X M' a w' (Gh.upd γ id g) S:=by
 have hne:∀i e,hdOf M i=some e->i≠id:=λi e h1 h2=>by rw[h2,hf]at h1;simp at h1
 have hh:HdLe (hdOf M) (hdOf M') γ (Gh.upd γ id g):=λi e h1=>⟨e,by rw[hM.1 i (hne i e h1)];exact h1,.inr ⟨rfl,rfl,λh=>h,Gh.q35 γ g (hne i e h1)⟩⟩;have hw:=h.toHRel.q8m hb hS;have hS':∀b,S b->S b:=λ_ h=>h;have cases':∀i e',hdOf M' i=some e'->(i=id/\e'=e)\/(i≠id/\hdOf M i=some e'):=λi e' h1=>by
  by_cases hi:i=id
  ·subst hi;rw[he]at h1;exact .inl ⟨rfl,by simpa using h1.symm⟩
  ·exact .inr ⟨hi,by rw[<- hM.1 i hi];exact h1⟩
 refine { keep:=h.keep.but hb hx,head:=λi e' h1=>?_,own:=λi e' h1 h2=>?_,inj:=λi e1 j e2 h1 h2 o1 o2 hbk=>?_,nt:=h.nt,q2p:=h.q2p,pin:=h.pin,slot:=λt s hs=>?_ }
 ·rcases cases' i e' h1 with⟨rfl,rfl⟩ | ⟨hi,h1⟩
  ·exact ho hh
  ·exact(h.head i e' h1).go hw hS' hh (Gh.q35 γ g hi) (λj=>hM.2.1 i j hi) λow=>hb.block _ (hn i e' h1 ow) (h.own i e' h1 ow).1
 ·rcases cases' i e' h1 with⟨rfl,rfl⟩ | ⟨hi,h1⟩
  ·rw[Gh.q32];exact⟨hl,hS,hx⟩
  ·have h2:=Owned.congr (Gh.q35 γ g hi) h2;rw[Gh.q35 γ g hi];have:=h.own i e' h1 h2;exact⟨AP this.1 hb.size,this.2⟩
 ·rcases cases' i e1 h1 with⟨rfl,rfl⟩ | ⟨hi,h1⟩ <;> rcases cases' j e2 h2 with⟨rfl,rfl⟩ | ⟨hj,h2⟩
  ·rfl
  ·rw[Gh.q32,Gh.q35 γ g hj]at hbk;exact absurd hbk.symm (hn j e2 h2 (Owned.congr (Gh.q35 γ g hj) o2))
  ·rw[Gh.q32,Gh.q35 γ g hi]at hbk;exact absurd hbk (hn i e1 h1 (Owned.congr (Gh.q35 γ g hi) o1))
  ·rw[Gh.q35 γ g hi,Gh.q35 γ g hj]at hbk;exact h.inj i e1 j e2 h1 h2 (Owned.congr (Gh.q35 γ g hi) o1) (Owned.congr (Gh.q35 γ g hj) o2) hbk
 ·rw[hM.2.2 t]at hs;exact(h.slot t s hs).mono hw hS' hh
theorem Rel.lose{X:Cx}{M M':Mem}{a:Act}{w:World}{γ:Nat->Gh}{S:Nat->Prop}(h:Rel X M a w γ S){id:Nat}(hM:q43 id M M')(he:hdOf M' id=some .tomb):Rel X M' a w γ S:=by
 have hh:HdLe (hdOf M) (hdOf M') γ γ:=λi e h1=>by
  by_cases hi:i=id
  ·subst hi;exact⟨_,he,.inl rfl⟩
  ·exact⟨e,by rw[hM.1 i hi];exact h1,.inr ⟨rfl,rfl,λh=>h,rfl⟩⟩
 have cases':∀i e',hdOf M' i=some e'->(i=id/\e'=.tomb)\/(i≠id/\hdOf M i=some e'):=λi e' h1=>by
  by_cases hi:i=id
  ·subst hi;rw[he]at h1;exact .inl ⟨rfl,by simpa using h1.symm⟩
  ·exact .inr ⟨hi,by rw[<- hM.1 i hi];exact h1⟩
 refine { keep:=h.keep,head:=λi e' h1=>?_,own:=λi e' h1 h2=>?_,inj:=λi e1 j e2 h1 h2 o1 o2 hbk=>?_,nt:=h.nt,q2p:=h.q2p,pin:=h.pin,slot:=λt s hs=>?_ }
 ·rcases cases' i e' h1 with⟨rfl,rfl⟩ | ⟨hi,h1⟩
  ·trivial
  ·exact(h.head i e' h1).go (λ_ _=>rfl) (λ_ h=>h) hh rfl (λj=>hM.2.1 i j hi) λ_=>rfl
 ·rcases cases' i e' h1 with⟨rfl,rfl⟩ | ⟨hi,h1⟩
  ·exact absurd h2 (by simp[Owned])
  ·exact h.own i e' h1 h2
 ·rcases cases' i e1 h1 with⟨rfl,rfl⟩ | ⟨hi,h1⟩
  ·exact absurd o1 (by simp[Owned])
  rcases cases' j e2 h2 with⟨rfl,rfl⟩ | ⟨hj,h2⟩
  ·exact absurd o2 (by simp[Owned])
  ·exact h.inj i e1 j e2 h1 h2 o1 o2 hbk
 ·rw[hM.2.2 t]at hs;exact(h.slot t s hs).mono (λ_ _=>rfl) (λ_ h=>h) hh
theorem Rel.change{X:Cx}{M M':Mem}{a:Act}{w w':World}{γ:Nat->Gh}{S:Nat->Prop}(h:Rel X M a w γ S){id:Nat}{e e':Ent}(hM:q43 id M M')(he:hdOf M id=some e)(ho:Owned γ id e)
  (he':hdOf M' id=some e') (hr:e'.row=e.row/\e'.ob=e.ob/\e≠.tomb) (hb:But (γ id).blk w w')
  (hn:HdLe (hdOf M) (hdOf M') γ γ->ORep w' S γ M' id e') (ho':Owned γ id e'):Rel X M' a w' γ S:=by
 have hh:HdLe (hdOf M) (hdOf M') γ γ:=λi e1 h1=>by
  by_cases hi:i=id
  ·subst hi;rw[he]at h1;cases h1;exact⟨e',he',.inr ⟨hr.1,hr.2.1,λh=>absurd h hr.2.2,rfl⟩⟩
  ·exact⟨e1,by rw[hM.1 i hi];exact h1,.inr ⟨rfl,rfl,λh=>h,rfl⟩⟩
 have own:=h.own id e he ho;have hw:=h.toHRel.q8m hb own.2.1;have cases':∀i e1,hdOf M' i=some e1->(i=id/\e1=e')\/(i≠id/\hdOf M i=some e1):=λi e1 h1=>by
  by_cases hi:i=id
  ·subst hi;rw[he']at h1;exact .inl ⟨rfl,by simpa using h1.symm⟩
  ·exact .inr ⟨hi,by rw[<- hM.1 i hi];exact h1⟩
 refine { keep:=h.keep.but hb own.2.2,head:=λi e1 h1=>?_,own:=λi e1 h1 h2=>?_,inj:=λi e1 j e2 h1 h2 o1 o2 hbk=>?_,nt:=h.nt,q2p:=h.q2p,pin:=h.pin,slot:=λt s hs=>?_ }
 ·rcases cases' i e1 h1 with⟨rfl,rfl⟩ | ⟨hi,h1⟩
  ·exact hn hh
  ·exact(h.head i e1 h1).go hw (λ_ h=>h) hh rfl (λj=>hM.2.1 i j hi) λow=>hb.block _ (λhbk=>hi (h.inj i e1 id e h1 he ow ho hbk)) (h.own i e1 h1 ow).1
 ·rcases cases' i e1 h1 with⟨rfl,rfl⟩ | ⟨hi,h1⟩
  ·exact⟨AP own.1 hb.size,own.2⟩
  ·have:=h.own i e1 h1 h2;exact⟨AP this.1 hb.size,this.2⟩
 ·rcases cases' i e1 h1 with⟨rfl,rfl⟩ | ⟨hi,h1⟩ <;> rcases cases' j e2 h2 with⟨rfl,rfl⟩ | ⟨hj,h2⟩
  ·rfl
  ·exact(h.inj j e2 i e h2 he o2 ho hbk.symm).symm
  ·exact h.inj i e1 j e h1 he o1 ho hbk
  ·exact h.inj i e1 j e2 h1 h2 o1 o2 hbk
 ·rw[hM.2.2 t]at hs;exact(h.slot t s hs).mono hw (λ_ h=>h) hh
theorem Rel.freeze{X:Cx}{M M':Mem}{a:Act}{w:World}{γ:Nat->Gh}{S:Nat->Prop}(h:Rel X M a w γ S){id sz:Nat}{xs:List FV}(hM:q43 id M M')
  (he:hdOf M id=some (.vec sz xs)\/hdOf M id=some (.frz sz xs)) (he':hdOf M' id=some (.frz sz xs)) :
  ∃S',(∀b,S b->S' b)/\(∀b,S' b->S b\/b=(γ id).blk)/\Rel X M' a w γ S':=by
 have hh:HdLe (hdOf M) (hdOf M') γ γ:=λi e1 h1=>by
  by_cases hi:i=id
  ·subst hi;rcases he with he | he <;> rw[he]at h1 <;> cases h1 <;> exact⟨_,he',.inr ⟨rfl,rfl,λh=>(by simp at h),rfl⟩⟩
  ·exact⟨e1,by rw[hM.1 i hi];exact h1,.inr ⟨rfl,rfl,λh=>h,rfl⟩⟩
 have cases':∀i e1,hdOf M' i=some e1->(i=id/\e1=.frz sz xs)\/(i≠id/\hdOf M i=some e1):=λi e1 h1=>by
  by_cases hi:i=id
  ·subst hi;rw[he']at h1;exact .inl ⟨rfl,by simpa using h1.symm⟩
  ·exact .inr ⟨hi,by rw[<- hM.1 i hi];exact h1⟩
 have main:∀S':Nat->Prop,(∀b,S b->S' b)->(∀b,S' b->S b\/((γ id).nil=false/\hdOf M id=some (.vec sz xs)/\b=(γ id).blk))->ORep w S' γ M' id (.frz sz xs)->Rel X M' a w γ S':=by
  intro S' h1 h2 h3;refine { keep:={ h.keep with bound:=λb hb=>?_,smon:=λb hb=>h1 b (h.keep.smon b hb),q8l:=λb hb=>?_ },head:=λi e1 he1=>?_,own:=λi e1 he1 ow=>?_,inj:=λi e1 j e2 hi hj o1 o2 hbk=>?_,nt:=h.nt,q2p:=h.q2p,pin:=h.pin,slot:=λt s hs=>?_ }
  ·rcases h2 b hb with h4 | ⟨h4,h5,rfl⟩
   ·exact h.keep.bound b h4
   ·exact(h.own id _ h5 h4).1
  ·rcases h2 b hb with h4 | ⟨h4,h5,rfl⟩
   ·exact h.keep.q8l b h4
   ·exact .inr (h.own id _ h5 h4).2.2
  ·rcases cases' i e1 he1 with⟨rfl,rfl⟩ | ⟨hi,he1⟩
   ·exact h3
   ·exact(h.head i e1 he1).go (λ_ _=>rfl) h1 hh rfl (λj=>hM.2.1 i j hi) λ_=>rfl
  ·rcases cases' i e1 he1 with⟨rfl,rfl⟩ | ⟨hi,he1⟩
   ·exact absurd ow (by simp[Owned])
   ·have:=h.own i e1 he1 ow;refine⟨this.1,λhS=>?_,this.2.2⟩;rcases h2 _ hS with h4 | ⟨h4,h5,h6⟩
    ·exact this.2.1 h4
    ·exact hi (h.inj i e1 id _ he1 h5 ow h4 h6)
  ·rcases cases' i e1 hi with⟨rfl,rfl⟩ | ⟨hi',hi⟩
   ·exact absurd o1 (by simp[Owned])
   rcases cases' j e2 hj with⟨rfl,rfl⟩ | ⟨hj',hj⟩
   ·exact absurd o2 (by simp[Owned])
   ·exact h.inj i e1 j e2 hi hj o1 o2 hbk
  ·rw[hM.2.2 t]at hs;exact(h.slot t s hs).mono (λ_ _=>rfl) h1 hh
 rcases he with he | he
 ·have ho:=h.head id _ he;by_cases hn:(γ id).nil=true
  ·refine⟨S,λ_ h=>h,λ_ h=>.inl h,main S (λ_ h=>h) (λ_ h=>.inl h) ⟨ho.1,?_⟩⟩;rw[if_pos hn];have:=ho.2;rwa[if_pos hn]at this
  ·have hn':(γ id).nil=false:=by simpa using hn
   refine⟨λb=>S b\/b=(γ id).blk,λ_ h=>.inl h,λ_ h=>h,main _ (λ_ h=>.inl h) (λb hb=>hb.imp (λh=>h) λh=>⟨hn',he,h⟩) ⟨ho.1,?_⟩⟩;rw[if_neg hn];have h2:=ho.2;rw[if_neg hn]at h2;obtain⟨_,_,_,_,h4⟩:=h2;exact⟨.inr rfl,h4.mono (λ_ _=>rfl) (λ_ h=>.inl h) rfl⟩
 ·refine⟨S,λ_ h=>h,λ_ h=>.inl h,main S (λ_ h=>h) (λ_ h=>.inl h) ?_⟩;exact(h.head id _ he).go (λ_ _=>rfl) (λ_ h=>h) (HdLe.refl _ _) rfl (λ_=>rfl) (λ_=>rfl)
end
section
def zeroOk:CK->Value->Bool
 |.int k,.int k' n=>kindEq k k'&&n==0
 |.bool,.bool b=>!b
 |.str,.string s=>s.data.size==0
 |.lst _,.slice none 0 0=>true
 |.raw v,v'=>rawOk v v'
 |_,_=>false
def zerosOk:List CK->List Value->Bool
 |[],[]=>true
 |c::cs,v::vs=>zeroOk c v&&zerosOk cs vs
 |_,_=>false
def isAgg':Value->Bool
 |.agg _=>true
 |_=>false
def ck1:TypeDesc->List CK->Bool
 |.int k,[.int k']=>kindEq k k'
 |.bool,[.bool]=>true
 |.string,[.str]=>true
 |.slice _,[.lst _]=>true
 |.pointer _,[.raw (.pointer none)]=>true
 |.map _ _,[.raw (.map none)]=>true
 |.func _ _ _,[.raw .nilFunc]=>true
 |.interface _,[.raw .nilIface]=>true
 |_,_=>false
def descOk(d:TypeDesc)(i:TyI):Bool :=
 match d with
 |.struct fs=>i.agg&&(fs.toList.map λf=>(f.offset,f.type))==i.flds
 |.array _ _=>i.agg&&i.flds.isEmpty
 |.slice e=>!i.agg&&i.flds.isEmpty&&i.elem==e&&ck1 d i.ck
 |d=>!i.agg&&i.flds.isEmpty&&ck1 d i.ck
def chkTy(P:Program)(t:TypeId)(i:TyI):Bool :=
 match P.info? t,P.underlying t with
 |some inf,some d=>inf.size==i.size&&inf.bytes==i.bytes&&i.ck.length==i.size&&(match inf.zero with | some z=>zerosOk i.ck z.cells.toList&&(i.agg==isAgg' z) | none=>false)&&descOk d i
 |_,_=>false
structure TyOk(P:Program)(t:TypeId)(i:TyI)(inf:TypeInfo)(d:TypeDesc)(z:Value):Prop where
 info:P.info? t=some inf
 und:P.underlying t=some d
 size:inf.size=i.size
 bytes:inf.bytes=i.bytes
 len:i.ck.length=i.size
 zero:inf.zero=some z
 q2c:zerosOk i.ck z.cells.toList=true
 zagg:i.agg=isAgg' z
 desc:descOk d i=true
theorem q8q{P:Program}{t:TypeId}{i:TyI}(h:chkTy P t i=true):∃inf d z,TyOk P t i inf d z:=by
 unfold chkTy at h;cases h1:P.info? t with
 |none=>simp[h1]at h
 |some inf =>
  cases h2:P.underlying t with
  |none=>simp[h1,h2]at h
  |some d =>
   simp only[h1,h2]at h;cases h3:inf.zero with
   |none=>simp[h3]at h
   |some z =>
    simp only[h3,Ai,Bu]at h;obtain⟨⟨⟨⟨a,b⟩,c⟩,e,f⟩,g⟩:=h;exact⟨inf,d,z,h1,h2,a,b,c,h3,e,f,g⟩
def basicT(P:Program)(t:TypeId)(c:CK):Bool :=
 match P.underlying t,c with
 |some (.int k),.int k'=>kindEq k k'
 |some .bool,.bool=>true
 |some .string,.str=>true
 |_,_=>false
def fldsOk(P:Program):List Field->Nat->List CK->Bool
 |[],_,[]=>true
 |f::fs,j,c::cs=>f.name != "_" && f.offset==j&&basicT P f.type c&&fldsOk P fs (j+1) cs
 |_,_,_=>false
def chkKey(P:Program)(kt:TypeId)(ki:TyI):Bool :=
 match P.underlying kt with
 |some (.struct fs)=>ki.agg&&!(P.stoodInHeld kt)&&fldsOk P fs.toList 0 ki.ck
 |some _=>!ki.agg&&(match ki.ck with | [c]=>basicT P kt c | _=>false)
 |none=>false
def chkMap(P:Program)(ty:Nat->Option TyI)(t:TypeId)(i:TyI):Bool :=
 match i.agg,i.ck with
 |false,[.raw (.map none)]=>(match P.underlying t with | some (.map k e)=>Nat.beq k i.key&&Nat.beq e i.elem | _=>false)&&(match ty i.key with | some ki=>chkKey P i.key ki | none=>true)
 |_,_=>true
structure q15(E:Env):Prop where
 ty:∀t i,E.ty t=some i->chkTy E.P t i=true
 mapk:∀t i,E.ty t=some i->chkMap E.P E.ty t i=true
 fc:∀f fn,E.fc f=some fn->E.P.funcs[vb f]?=some fn/\(fn.name == "runtime.NumGoroutine")=false
 mixed:E.P.follows .mixedOrders=true
theorem q7c{a b:IntKind}:kindEq a b=true↔a=b:=by cases a <;> cases b <;> simp[kindEq]
theorem qai:∀ {ck:List CK} {vs:List Value},zerosOk ck vs=true->vs.length=ck.length
 |[],[],_=>rfl
 |[],_::_,h=>by simp[zerosOk]at h
 |_::_,[],h=>by simp[zerosOk]at h
 |c::cs,v::vs,h=>by
  simp only[zerosOk,Ai]at h;simp[qai h.2]
theorem qdz{v v':Value}(h:rawOk v v'=true):v=v'/\v'.oneCell'=true:=by
 unfold rawOk at h;split at h <;> first | exact⟨rfl,rfl⟩ | (obtain rfl:=Aw h;exact⟨rfl,rfl⟩) | simp at h
theorem zero_rep{w:World}{S:Nat->Prop}{k:CK}{v:Value}(h:zeroOk k v=true):FRep w S k.zero v/\(∀ γ hd,SRep w S γ hd k.zeroS v)/\v.oneCell'=true:=by
 cases k with
 |int k =>
  cases v <;> simp[zeroOk,q7c]at h;obtain⟨rfl,rfl⟩:=h;exact⟨.int _ _,λ_ _=>.fv (.int _ _),rfl⟩
 |bool =>
  cases v <;> simp[zeroOk]at h;subst h;exact⟨.bool _,λ_ _=>.fv (.bool _),rfl⟩
 |str =>
  cases v <;> simp[zeroOk]at h;rename_i s;have:s=⟨#[]⟩:=by cases s;simp_all;rfl
  subst this;exact⟨.str _,λ_ _=>.fv (.str _),rfl⟩
 |lst sz =>
  unfold zeroOk at h;split at h <;> simp_all;exact⟨FRep.q38.2 ⟨none,0,0,0,rfl,Ak _,λh=>absurd rfl h,λ_ h=>by simp at h,λi j x c h=>by simp at h⟩,λ_ _=>.nilS,rfl⟩
 |raw u =>
  have h':rawOk u v=true:=by simpa[zeroOk]using h
  obtain⟨rfl,h2⟩:=qdz h';exact⟨.raw _,λ_ _=>.fv (.raw _),h2⟩
theorem q9f{w:World}{S:Nat->Prop}:∀ {ck:List CK} {vs:List Value},zerosOk ck vs=true->∀(j:Nat) (k:CK),ck[j]?=some k ->
  ∃v,vs[j]?=some v/\FRep w S k.zero v/\(∀ γ hd,SRep w S γ hd k.zeroS v)/\v.oneCell'=true
 |[],[],_,j,k,hk=>by simp at hk
 |[],_::_,h,_,_,_=>by simp[zerosOk]at h
 |_::_,[],h,_,_,_=>by simp[zerosOk]at h
 |c::cs,v::vs,h,j,k,hk=>by
  simp only[zerosOk,Ai]at h;cases j with
  |zero=>simp at hk;subst hk;exact⟨v,rfl,zero_rep h.1⟩
  |succ j=>simpa using q9f h.2 j k (by simpa using hk)
def Gets(t:RT)(M:Mem)(us:List (Key×Ent)):Prop:=∃lg,t.get M=some (us,lg)
section
variable {M:Mem} {us:List (Key×Ent)}
theorem q2w{u:List (Key×Ent)}(h:Gets (.ret u) M us):us=u:=by
 obtain⟨lg,h⟩:=h;simp[RT.get]at h;exact h.1.symm
theorem qh(h:Gets .fail M us):False:=by
 obtain⟨lg,h⟩:=h;simp[RT.get]at h
theorem q6u{k:Key}{f:Ent->RT}(h:Gets (.rd k f) M us):∃e,M.get k=some e/\Gets (f e) M us:=by
 obtain⟨lg,h⟩:=h;simp only[RT.get]at h;cases he:Mem.get k M with
 |none=>simp[he]at h
 |some e =>
  simp only[he]at h;cases hf:(f e).get M with
  |none=>simp[hf]at h
  |some r=>simp only[hf,AD,AH,Bv]at h;exact⟨e,rfl,r.2,by rw[hf,<- h.1]⟩
theorem q7p{id:Nat}{t:RT}(h:Gets (.fresh id t) M us):hdOf M id=none/\Gets t M us:=by
 obtain⟨lg,h⟩:=h;simp only[RT.get]at h;cases he:Mem.get (.head id) M with
 |some e=>simp[he]at h
 |none =>
  simp only[he]at h;cases hf:t.get M with
  |none=>simp[hf]at h
  |some r=>simp only[hf,AD,AH,Bv]at h;exact⟨he,r.2,by rw[hf,<- h.1]⟩
theorem qe0{x:Option Int}{f:Int->RT}(h:Gets (.int x f) M us):∃n,x=some n/\Gets (f n) M us:=by
 obtain⟨lg,h⟩:=h;simp only[RT.get,CD]at h;obtain⟨n,h1,h2⟩:=h;exact⟨n,h1,lg,h2⟩
theorem q9e{x:Option Nat}{f:Nat->RT}(h:Gets (.nat x f) M us):∃n,x=some n/\Gets (f n) M us:=by
 obtain⟨lg,h⟩:=h;simp only[RT.get,CD]at h;obtain⟨n,h1,h2⟩:=h;exact⟨n,h1,lg,h2⟩
theorem qkg{x:Option Bool}{f:Bool->RT}(h:Gets (.boo x f) M us):∃n,x=some n/\Gets (f n) M us:=by
 obtain⟨lg,h⟩:=h;simp only[RT.get,CD]at h;obtain⟨n,h1,h2⟩:=h;exact⟨n,h1,lg,h2⟩
theorem qf1{x:Option ByteArray}{f:ByteArray->RT}(h:Gets (.str x f) M us):∃n,x=some n/\Gets (f n) M us:=by
 obtain⟨lg,h⟩:=h;simp only[RT.get,CD]at h;obtain⟨n,h1,h2⟩:=h;exact⟨n,h1,lg,h2⟩
theorem qao{x:Option (List FV)}{f:List FV->RT}(h:Gets (.lst x f) M us):∃n,x=some n/\Gets (f n) M us:=by
 obtain⟨lg,h⟩:=h;simp only[RT.get,CD]at h;obtain⟨n,h1,h2⟩:=h;exact⟨n,h1,lg,h2⟩
theorem q6y{b:Bool}{t e:RT}(h:Gets (.cnd b t e) M us):(b=true/\Gets t M us)\/(b=false/\Gets e M us):=by
 obtain⟨lg,h⟩:=h;simp only[RT.get]at h;cases b
 ·exact .inr ⟨rfl,lg,h⟩
 ·exact .inl ⟨rfl,lg,h⟩
theorem q16{b:Bool}{t:RT}(h:Gets (bif b then t else .fail) M us):b=true/\Gets t M us:=by
 cases b
 ·exact(qh h).elim
 ·exact⟨rfl,h⟩
theorem q3p{E:Env}{t:TypeId}{f:TyI->RT}(hE:q15 E)(h:Gets (ty E t f) M us):∃i inf d z,TyOk E.P t i inf d z/\Gets (f i) M us:=by
 unfold ty at h;cases hi:E.ty t with
 |none=>rw[hi]at h;exact(qh h).elim
 |some i =>
  rw[hi]at h;obtain⟨inf,d,z,k⟩:=q8q (hE.ty t i hi);exact⟨i,inf,d,z,k,h⟩
theorem q2y{id:Nat}{f:Ent->RT}(h:Gets (q34 id f) M us):∃e,hdOf M id=some e/\Gets (f e) M us:=q6u h
end
section
variable {X:Cx} {M:Mem} {a:Act} {w:World} {γ:Nat->Gh} {S:Nat->Prop} {us:List (Key×Ent)}
theorem qri{hd:Nat->Option Ent}(v:Value):SRep w S γ hd (constSV v) v:=by
 unfold constSV;split
 ·exact .fv (.int _ _)
 ·exact .fv (.bool _)
 ·exact .fv (.str _)
 ·exact .nilS
 ·exact .fv (.raw _)
theorem q1k(h:Rel X M a w γ S){x:Operand}{f:SV->RT}(hg:Gets (opd x f) M us):∃s,SRep w S γ (hdOf M) s (a.eval x)/\Gets (f s) M us:=by
 unfold opd at hg;split at hg
 ·rename_i t;obtain⟨e,he,hg⟩:=q6u hg;split at hg
  ·exact⟨_,h.slot t _ he,hg⟩
  ·exact(qh hg).elim
 ·exact⟨_,qri _,hg⟩
 ·exact(qh hg).elim
 ·exact⟨_,.fv (.raw _),hg⟩
theorem qbq(h:Rel X M a w γ S):∀ {xs:List Operand} {f:List SV->RT},Gets (opds xs f) M us ->
  ∃ss,ss.length=xs.length/\(∀(j:Nat) (x:Operand),xs[j]?=some x->∃s,ss[j]?=some s/\SRep w S γ (hdOf M) s (a.eval x))/\Gets (f ss) M us
 |[],f,hg=>⟨[],rfl,λj x hx=>by simp at hx,hg⟩
 |x::xs,f,hg=>by
  unfold opds at hg;obtain⟨s,hs,hg⟩:=q1k h hg;obtain⟨ss,h1,h2,hg⟩:=qbq h hg;refine⟨s::ss,by simp[h1],λj y hy=>?_,hg⟩;cases j with
  |zero=>simp at hy;subst hy;exact⟨s,rfl,hs⟩
  |succ j=>simpa using h2 j y (by simpa using hy)
theorem q1f(h:Rel X M a w γ S){o:Oper}(hd:∀d,o.dst=some d->X.Dst d){s:SV}{v:Value}(hs:SRep w S γ (hdOf M) s v)(hg:Gets (out o.dst s []) M us) :
  Rel X (us++M) (a.put o.dst v) w γ S:=by
 unfold out at hg;cases hdst:o.dst with
 |none=>rw[hdst]at hg;rw[q2w hg];exact h
 |some d=>rw[hdst]at hg;rw[q2w hg];exact h.put (hd d hdst) hs
def Goal(P:Program)(X:Cx)(M:Mem)(o:Oper)(a:Act)(w:World)(us:List (Key×Ent)):Prop :=
 ∀(next:Act->World->Prop) (Q:Exit->Act->World->Prop),(∀v w' γ' S',Rel X (us++M) (a.put o.dst v) w' γ' S'->next (a.put o.dst v) w')->o.wp P a w next Q
theorem Goal.value{P:Program}{o:Oper}{v:Value}{w':World}{γ':Nat->Gh}{S':Nat->Prop}(hr:(execOp a.eval o).run P w=.ok (.value v) w')(h:Rel X (us++M) (a.put o.dst v) w' γ' S') :
  Goal P X M o a w us:=λnext Q hn=>by
 unfold Oper.wp;rw[hr];exact hn v w' γ' S' h
theorem Goal.q1i{P:Program}{o:Oper}{v:Value}(hr:(execOp a.eval o).run P w=.ok (.value v) w)(h:Rel X (us++M) (a.put o.dst v) w γ S):Goal P X M o a w us:=.value hr h
theorem Goal.skip{P:Program}{o:Oper}{w':World}{γ':Nat->Gh}{S':Nat->Prop}(hr:(execOp a.eval o).run P w=.ok .skip w')(h:Rel X (us++M) (a.put o.dst undef) w' γ' S') :
  Goal P X M o a w us:=λnext Q hn=>by
 unfold Oper.wp;rw[hr];exact hn undef w' γ' S' h
end
end
end Rf
