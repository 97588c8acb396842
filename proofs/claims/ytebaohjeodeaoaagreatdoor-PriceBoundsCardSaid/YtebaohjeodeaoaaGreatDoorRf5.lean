/- Operations that write their slot alone. -/
import Derived.Test.YtebaohjeodeaoaaGreatDoorRf4
namespace Rf
open Go

section
variable {P : Program} {t : TypeId} {i : TyI} {inf : TypeInfo} {d : TypeDesc} {z : Value}
theorem TyOk.runU (h : TyOk P t i inf d z) (w : World) : (underlying t).run P w = .ok d w := run_underlying h.und w
theorem TyOk.runI (h : TyOk P t i inf d z) (w : World) : (typeInfo t).run P w = .ok inf w := by simp [typeInfo, h.info]
theorem TyOk.runS (h : TyOk P t i inf d z) (w : World) : (Go.sizeOf t).run P w = .ok i.size w := by simp [Go.sizeOf, h.runI, h.size]
theorem TyOk.runZ (h : TyOk P t i inf d z) (w : World) : (zeroValue t).run P w = .ok z w := by simp [zeroValue, h.runI, h.zero]
theorem TyOk.runA (h : TyOk P t i inf d z) (w : World) : (isAgg t).run P w = .ok i.agg w := by
  have hd := h.desc
  cases d <;> simp_all [isAgg, h.runU, descOk]

/-- the fields of a struct -/
theorem TyOk.flds (h : TyOk P t i inf d z) {f off ft : Nat} (hf : i.flds[f]? = some (off, ft)) : ∃ fs fd, d = .struct fs ∧ fs[f]? = some fd ∧ fd.offset = off ∧ fd.type = ft := by
  have hd := h.desc
  cases d <;> simp_all [descOk]
  case struct fs =>
    obtain ⟨_, h2⟩ := hd
    rw [← h2] at hf
    simp only [List.getElem?_map, Option.map_eq_some_iff, Prod.mk.injEq, Array.getElem?_toList] at hf
    obtain ⟨fd, h3, h4, h5⟩ := hf
    exact ⟨fd, h3, h4, h5⟩

theorem TyOk.scalar (h : TyOk P t i inf d z) (ha : i.agg = false) : ck1 d i.ck = true := by
  have hd := h.desc
  cases d <;> simp_all [descOk]

/-- a type with an element of this size is a slice's (or told of as having none) -/
theorem TyOk.isSlice (h : TyOk P t i inf d z) {sz : Nat} (hk : i.ck = [.lst sz]) (ha : i.agg = false) : d = .slice i.elem := by
  have hd := h.desc
  cases d <;> simp_all [descOk, ck1]
end

section
variable {E : Env} {call : FuncId → List FV → Res} {X : Cx} {M : Mem} {a : Act} {w : World} {γ : Nat → Gh} {S : Nat → Prop} {us : List (Key × Ent)} {o : Oper}

theorem sim_move {x : Operand} (h : Rel X M a w γ S) (hd : ∀ d, o.dst = some d → X.Dst d) (hop : o.op = .move x ∨ o.op = .assign x) (hg : Gets (opd x fun v => out o.dst v []) M us) : Goal E.P X M o a w us := by
  obtain ⟨s, hs, hg⟩ := gets_opd h hg
  have hr : (execOp a.eval o).run E.P w = .ok (.value (a.eval x)) w := by
    rcases hop with hop | hop <;> simp [execOp, hop]
  exact .value0 hr (put_end h hd hs hg)

theorem SRep.bool_inv {w : World} {S : Nat → Prop} {γ : Nat → Gh} {hd : Nat → Option Ent} {b : Bool} {v : Value} (h : SRep w S γ hd (.fv (.bool b)) v) : v = .bool b := by
  cases h with
  | fv h => cases h; rfl
  | tomb hs _ => simp [SV.refId] at hs
theorem SRep.int_inv {w : World} {S : Nat → Prop} {γ : Nat → Gh} {hd : Nat → Option Ent} {k : IntKind} {n : Int} {v : Value} (h : SRep w S γ hd (.fv (.int k n)) v) : v = .int k n := by
  cases h with
  | fv h => cases h; rfl
  | tomb hs _ => simp [SV.refId] at hs
theorem SRep.str_inv {w : World} {S : Nat → Prop} {γ : Nat → Gh} {hd : Nat → Option Ent} {s : ByteArray} {v : Value} (h : SRep w S γ hd (.fv (.str s)) v) : v = .string s := by
  cases h with
  | fv h => cases h; rfl
  | tomb hs _ => simp [SV.refId] at hs
theorem SRep.raw_inv {w : World} {S : Nat → Prop} {γ : Nat → Gh} {hd : Nat → Option Ent} {u v : Value} (h : SRep w S γ hd (.fv (.raw u)) v) : v = u := by
  cases h with
  | fv h => cases h; rfl
  | tomb hs _ => simp [SV.refId] at hs
theorem SRep.list_inv {w : World} {S : Nat → Prop} {γ : Nat → Gh} {hd : Nat → Option Ent} {sz : Nat} {xs : List FV} {v : Value} (h : SRep w S γ hd (.fv (.list sz xs)) v) : FRep w S (.list sz xs) v := by
  cases h with
  | fv h => exact h
  | tomb hs _ => simp [SV.refId] at hs
theorem SRep.nilS_inv {w : World} {S : Nat → Prop} {γ : Nat → Gh} {hd : Nat → Option Ent} {v : Value} (h : SRep w S γ hd .nilS v) : v = .slice none 0 0 := by
  cases h with
  | nilS => rfl
  | tomb hs _ => simp [SV.refId] at hs
theorem SRep.ptr_inv {w : World} {S : Nat → Prop} {γ : Nat → Gh} {hd : Nat → Option Ent} {id off n : Nat} {v : Value} (h : SRep w S γ hd (.ptr id off) v) (he : hd id = some (.obj n)) : v = .pointer (some ⟨(γ id).blk, off, none⟩) := by
  cases h with
  | ptr _ _ => rfl
  | tomb hs h => simp [SV.refId] at hs; subst hs; rw [he] at h; simp at h
theorem SRep.ept_inv {w : World} {S : Nat → Prop} {γ : Nat → Gh} {hd : Nat → Option Ent} {id sz i c s len : Nat} {e : Ent} {v : Value} (h : SRep w S γ hd (.ept id sz i c) v) (he : hd id = some e) (hr : e.row = some (s, len)) :
    v = .pointer (some ⟨(γ id).blk, (γ id).off + (i * sz + c), none⟩) ∧ sz = s ∧ i < len ∧ (γ id).nil = false := by
  cases h with
  | ept h1 h2 h3 h4 => rw [he] at h1; cases h1; rw [hr] at h2; cases h2; exact ⟨rfl, rfl, h4, h3⟩
  | tomb hs h => simp [SV.refId] at hs; subst hs; rw [he] at h; cases h; simp [Ent.row] at hr
theorem SRep.fp_inv {w : World} {S : Nat → Prop} {γ : Nat → Gh} {hd : Nat → Option Ent} {sz i c : Nat} {xs : List FV} {v : Value} (h : SRep w S γ hd (.fp sz xs i c) v) :
    ∃ b o, v = .pointer (some ⟨b, o + (i * sz + c), none⟩) ∧ S b ∧ Row w S b o sz xs ∧ i < xs.length := by
  cases h with
  | fp h1 h2 h3 => exact ⟨_, _, rfl, h1, h2, h3⟩
  | tomb hs _ => simp [SV.refId] at hs
theorem SRep.agg_inv {w : World} {S : Nat → Prop} {γ : Nat → Gh} {hd : Nat → Option Ent} {cs : List SV} {v : Value} (h : SRep w S γ hd (.agg cs) v) : ∃ vs, v = .agg vs ∧ vs.size = cs.length ∧ ∀ (j : Nat) (s : SV), cs[j]? = some s → SRep w S γ hd s (vs.getD j undef) := by
  cases h with
  | agg h1 h2 => exact ⟨_, rfl, h1, h2⟩
  | tomb hs _ => simp [SV.refId] at hs
theorem SRep.tup_inv {w : World} {S : Nat → Prop} {γ : Nat → Gh} {hd : Nat → Option Ent} {cs : List SV} {v : Value} (h : SRep w S γ hd (.tup cs) v) : ∃ vs, v = .tuple vs ∧ vs.size = cs.length ∧ ∀ (j : Nat) (s : SV), cs[j]? = some s → SRep w S γ hd s (vs.getD j undef) := by
  cases h with
  | tup h1 h2 => exact ⟨_, rfl, h1, h2⟩
  | tomb hs _ => simp [SV.refId] at hs
theorem SRep.clo_inv {w : World} {S : Nat → Prop} {γ : Nat → Gh} {hd : Nat → Option Ent} {fn : Fn} {fs cs : List SV} {v : Value} (h : SRep w S γ hd (.clo fn fs cs) v) :
    ∃ f c, v = .func fn f c ∧ f.size = fs.length ∧ c.size = cs.length ∧ (∀ (j : Nat) (s : SV), fs[j]? = some s → SRep w S γ hd s (f.getD j undef)) ∧ ∀ (j : Nat) (s : SV), cs[j]? = some s → SRep w S γ hd s (c.getD j undef) := by
  cases h with
  | clo h1 h2 h3 h4 => exact ⟨_, _, rfl, h1, h2, h3, h4⟩
  | tomb hs _ => simp [SV.refId] at hs
/-- a slice of an owned row -/
theorem SRep.sl_inv {w : World} {S : Nat → Prop} {γ : Nat → Gh} {hd : Nat → Option Ent} {id s len : Nat} {view : Option (Nat × Nat)} {e : Ent} {v : Value} (h : SRep w S γ hd (.sl id view) v) (he : hd id = some e) (hr : e.row = some (s, len)) :
    (view = none ∧ v = .slice (γ id).base len (γ id).cap) ∨ ∃ o n a c, view = some (o, n) ∧ v = .slice a n c ∧ o + n ≤ len ∧ n ≤ c ∧ (n ≠ 0 → (γ id).nil = false ∧ a = some ⟨(γ id).blk, (γ id).off + o * s, none⟩) ∧ (o = 0 → a = (γ id).base ∧ c = (γ id).cap) := by
  cases h with
  | sl h1 h2 => rw [he] at h1; cases h1; rw [hr] at h2; cases h2; exact .inl ⟨rfl, rfl⟩
  | view h1 h2 h3 h4 h5 h6 => rw [he] at h1; cases h1; rw [hr] at h2; cases h2; exact .inr ⟨_, _, _, _, rfl, rfl, h3, h4, h5, h6⟩
  | tomb hs h => simp [SV.refId] at hs; subst hs; rw [he] at h; cases h; simp [Ent.row] at hr

theorem sim_pick {c x y : Operand} (h : Rel X M a w γ S) (hd : ∀ d, o.dst = some d → X.Dst d) (hop : o.op = .pick c x y) (hg : Gets (rtOp E call o) M us) : Goal E.P X M o a w us := by
  simp only [rtOp, hop] at hg
  obtain ⟨c', hc, hg⟩ := gets_opd h hg
  obtain ⟨x', hx, hg⟩ := gets_opd h hg
  obtain ⟨y', hy, hg⟩ := gets_opd h hg
  cases c' with
  | fv q =>
    cases q with
    | bool b =>
      have hcv := hc.bool_inv
      have hr : (execOp a.eval o).run E.P w = .ok (.value (if b then a.eval x else a.eval y)) w := by
        simp [execOp, hop, hcv, Go.asBool]
      refine .value0 (γ := γ) (S := S) hr ?_
      dsimp only at hg
      split at hg
      · rename_i b1 b2 heq
        have e1 := hx.bool_inv
        have e2 := hy.bool_inv
        refine put_end h hd (s := .fv (.bool (cond b b1 b2))) ?_ hg
        cases b <;> simp [e1, e2] <;> exact .fv (.bool _)
      · rcases gets_cnd hg with ⟨rfl, hg⟩ | ⟨rfl, hg⟩
        · exact put_end h hd hx hg
        · exact put_end h hd hy hg
    | _ => exact (gets_fail hg).elim
  | _ => exact (gets_fail hg).elim

/-- An address behind which something lies is one. -/
theorem live_ptr {f : SV → RT} {s : SV} {v : Value} (hs : SRep w S γ (hdOf M) s v) (hg : Gets (live s (f s)) M us) :
    (∃ b o, v = .pointer (some ⟨b, o, none⟩)) ∧ Gets (f s) M us := by
  unfold live at hg
  split at hg
  · obtain ⟨e, he, hg⟩ := gets_rdHead hg
    split at hg
    · exact ⟨⟨_, _, hs.ptr_inv he⟩, hg⟩
    · exact (gets_fail hg).elim
  · obtain ⟨e, he, hg⟩ := gets_rdHead hg
    split at hg
    · exact ⟨⟨_, _, (hs.ept_inv he rfl).1⟩, hg⟩
    · exact ⟨⟨_, _, (hs.ept_inv he rfl).1⟩, hg⟩
    · exact (gets_fail hg).elim
  · obtain ⟨b, o, h1, _⟩ := hs.fp_inv
    exact ⟨⟨_, _, h1⟩, hg⟩
  · exact (gets_fail hg).elim

theorem sim_nilCheck {x : Operand} (h : Rel X M a w γ S) (hd : ∀ d, o.dst = some d → X.Dst d) (hop : o.op = .nilCheck x) (hg : Gets (rtOp E call o) M us) : Goal E.P X M o a w us := by
  simp only [rtOp, hop] at hg
  obtain ⟨s, hs, hg⟩ := gets_opd h hg
  obtain ⟨⟨b, off, hv⟩, hg⟩ := live_ptr (f := fun s => out o.dst s []) hs hg
  refine .value0 (v := a.eval x) ?_ (put_end h hd hs hg)
  simp [execOp, hop, hv]

theorem binI_ok {op : BinOp} {k : IntKind} {m n : Int} {f : SV → RT} (hg : Gets (binI op k m n f) M us) {xt : TypeId} (hs : op ≠ .shl ∧ op ≠ .shr) :
    ∃ s v, Gets (f s) M us ∧ SRep w S γ (hdOf M) s v ∧ (Go.binOp op xt (.int k m) (.int k n)).run E.P w = .ok v w := by
  have I : ∀ q, SRep w S γ (hdOf M) (.fv (.int k q)) (.int k q) := fun q => .fv (.int k q)
  have B : ∀ q, SRep w S γ (hdOf M) (.fv (.bool q)) (.bool q) := fun q => .fv (.bool q)
  have div : ∀ op', (op' = .quo ∨ op' = .rem) → ¬ n = 0 → (Go.binOp op' xt (.int k m) (.int k n)).run E.P w = .ok (.int k (match op' with | .quo => k.wrap (m.tdiv n) | _ => m.tmod n)) w := by
    intro op' ho hn
    rcases ho with rfl | rfl <;> simp [Go.binOp, Op.intDiv, hn]
  cases op with
  | add => exact ⟨_, _, hg, I _, by simp [Go.binOp, Op.intArith]⟩
  | sub => exact ⟨_, _, hg, I _, by simp [Go.binOp, Op.intArith]⟩
  | mul => exact ⟨_, _, hg, I _, by simp [Go.binOp, Op.intArith]⟩
  | quo =>
    rcases gets_cnd hg with ⟨_, hg⟩ | ⟨hb, hg⟩
    · exact (gets_fail hg).elim
    · exact ⟨_, _, hg, I _, div .quo (.inl rfl) (by simpa using hb)⟩
  | rem =>
    rcases gets_cnd hg with ⟨_, hg⟩ | ⟨hb, hg⟩
    · exact (gets_fail hg).elim
    · exact ⟨_, _, hg, I _, div .rem (.inr rfl) (by simpa using hb)⟩
  | and => exact ⟨_, _, hg, I _, by simp only [Go.binOp, ne_eq, not_true_eq_false, if_false]; rfl⟩
  | or => exact ⟨_, _, hg, I _, by simp only [Go.binOp, ne_eq, not_true_eq_false, if_false]; rfl⟩
  | xor => exact ⟨_, _, hg, I _, by simp only [Go.binOp, ne_eq, not_true_eq_false, if_false]; rfl⟩
  | andNot => exact ⟨_, _, hg, I _, by simp only [Go.binOp, ne_eq, not_true_eq_false, if_false]; rfl⟩
  | eql => exact ⟨_, _, hg, B _, by simp [Go.binOp, Op.intCmp]⟩
  | neq => exact ⟨_, _, hg, B _, by simp [Go.binOp, Op.intCmp]⟩
  | lss => exact ⟨_, _, hg, B _, by simp [Go.binOp, Op.intCmp]⟩
  | leq => exact ⟨_, _, hg, B _, by simp [Go.binOp, Op.intCmp]⟩
  | gtr => exact ⟨_, _, hg, B _, by simp [Go.binOp, Op.intCmp]⟩
  | geq => exact ⟨_, _, hg, B _, by simp [Go.binOp, Op.intCmp]⟩
  | shl => exact absurd rfl hs.1
  | shr => exact absurd rfl hs.2

theorem binS_ok {op : BinOp} {m n : ByteArray} {f : SV → RT} (hg : Gets (binS op m n f) M us) {xt : TypeId} :
    ∃ s v, Gets (f s) M us ∧ SRep w S γ (hdOf M) s v ∧ (Go.binOp op xt (.string m) (.string n)).run E.P w = .ok v w := by
  have B : ∀ q, SRep w S γ (hdOf M) (.fv (.bool q)) (.bool q) := fun q => .fv (.bool q)
  cases op with
  | add =>
    rcases gets_cnd hg with ⟨_, hg⟩ | ⟨hb, hg⟩
    · exact (gets_fail hg).elim
    · have hb' : ¬ ((m.size + n.size : Nat) : Int) > IntKind.i64.max := by simpa using hb
      exact ⟨_, _, hg, .fv (.str _), by simp only [Go.binOp, Op.stringOp]; rw [if_neg hb']; rfl⟩
  | eql => exact ⟨_, _, hg, B _, by simp [Go.binOp, Op.stringOp]⟩
  | neq => exact ⟨_, _, hg, B _, by simp [Go.binOp, Op.stringOp]⟩
  | lss => exact ⟨_, _, hg, B _, by simp [Go.binOp, Op.stringOp]⟩
  | leq => exact ⟨_, _, hg, B _, by simp [Go.binOp, Op.stringOp]⟩
  | gtr => exact ⟨_, _, hg, B _, by simp [Go.binOp, Op.stringOp]⟩
  | geq => exact ⟨_, _, hg, B _, by simp [Go.binOp, Op.stringOp]⟩
  | _ => exact (gets_fail hg).elim

theorem run_eqBool {P : Program} {t : TypeId} (h : P.underlying t = some .bool) (a b : Bool) (w : World) : (Op.equal t (.bool a) (.bool b)).run P w = .ok (a == b) w := by
  have : ∀ d, (Op.equalIn (d + 1) t (.bool a) (.bool b)).run P w = .ok (a == b) w := fun d => by
    simp only [Op.equalIn, Sem.run_bind, run_underlying h, Result.andThen_ok, Sem.run_pure]
  exact this 9999

theorem run_eqNil {P : Program} {t : TypeId} {el : TypeId} (h : P.underlying t = some (.pointer el)) (a : Option Addr) (w : World) : (Op.equal t (.pointer a) (.pointer none)).run P w = .ok a.isNone w := by
  have : ∀ d, (Op.equalIn (d + 1) t (.pointer a) (.pointer none)).run P w = .ok a.isNone w := fun d => by
    cases a <;> simp only [Op.equalIn, Sem.run_bind, run_underlying h, Result.andThen_ok, Sem.run_pure, Option.isNone]
  exact this 9999

theorem sim_binOp {op : BinOp} {xt yt : TypeId} {x y : Operand} (hE : EnvOk E) (h : Rel X M a w γ S) (hd : ∀ d, o.dst = some d → X.Dst d) (hop : o.op = .binOp op xt x y yt) (hg0 : Gets (rtOp E call o) M us) : Goal E.P X M o a w us := by
  simp only [rtOp, hop] at hg0
  obtain ⟨s, hs, hg1⟩ := gets_opd h hg0
  obtain ⟨t, ht, hg⟩ := gets_opd h hg1
  clear hg0 hg1
  have fin : ∀ s v, Gets (out o.dst s []) M us → SRep w S γ (hdOf M) s v → (∀ p q : Value, a.eval x = p → a.eval y = q → (eqGuard op xt x y p q).run E.P w = .ok () w) →
      (Go.binOp op xt (a.eval x) (a.eval y)).run E.P w = .ok v w → Goal E.P X M o a w us := by
    intro s v hg hs hq hr
    refine .value0 (v := v) ?_ (put_end h hd hs hg)
    simp only [execOp, hop, Sem.run_bind, hq _ _ rfl rfl, Result.andThen_ok, hr, Sem.run_pure]
  have guardOk : ∀ p q : Value, (match p with | .int _ _ | .string _ | .bool _ => true | _ => false) = true → (eqGuard op xt x y p q).run E.P w = .ok () w := by
    intro p q hp
    cases p <;> simp at hp <;> cases op <;> simp [eqGuard]
  unfold binOp at hg
  split at hg
  · rename_i k m k' n
    have e1 := hs.int_inv
    have e2 := ht.int_inv
    split at hg
    · rcases gets_cnd hg with ⟨_, hg⟩ | ⟨hb, hg⟩
      · exact (gets_fail hg).elim
      · have hb' : ¬ n < 0 := by simpa using hb
        exact fin _ _ hg (.fv (.int _ _)) (fun p q hp hq => guardOk p q (by rw [← hp, e1])) (by rw [e1, e2]; simp only [Go.binOp, Op.shift]; rw [if_neg hb']; simp [shI])
    · rcases gets_cnd hg with ⟨_, hg⟩ | ⟨hb, hg⟩
      · exact (gets_fail hg).elim
      · have hb' : ¬ n < 0 := by simpa using hb
        exact fin _ _ hg (.fv (.int _ _)) (fun p q hp hq => guardOk p q (by rw [← hp, e1])) (by rw [e1, e2]; simp only [Go.binOp, Op.shift]; rw [if_neg hb']; simp [shI])
    · rename_i h1 h2
      obtain ⟨hk, hg2⟩ := gets_bif hg
      rw [kindEq_iff] at hk
      subst hk
      obtain ⟨s', v, hg, hr, hrun⟩ := binI_ok (E := E) (w := w) (S := S) (γ := γ) (xt := xt) hg2 ⟨fun h => h1 h, fun h => h2 h⟩
      exact fin _ _ hg hr (fun p q hp hq => guardOk p q (by rw [← hp, e1])) (by rw [e1, e2]; exact hrun)
  · have e1 := hs.str_inv
    have e2 := ht.str_inv
    obtain ⟨s', v, hg, hr, hrun⟩ := binS_ok (E := E) (w := w) (S := S) (γ := γ) (xt := xt) hg
    exact fin _ _ hg hr (fun p q hp hq => guardOk p q (by rw [← hp, e1])) (by rw [e1, e2]; exact hrun)
  · rename_i hni hns
    have eqDone : ∀ (neg : Bool), op = (if neg then .neq else .eql) → (∀ i, E.ty xt = some i → Gets (eqOp neg i s t fun v => out o.dst v []) M us → Goal E.P X M o a w us) := by
      clear hg
      intro neg hopn i hi hg
      obtain ⟨inf, d, z, hT⟩ := chkTy_ok (hE.ty xt i hi)
      unfold eqOp at hg
      split at hg
      · rename_i b1 b2 ha hck
        have hc1 := hT.scalar ha
        rw [hck] at hc1
        have hdd : d = .bool := by cases d <;> simp [ck1] at hc1; rfl
        subst hdd
        have e1 := hs.bool_inv
        have e2 := ht.bool_inv
        refine fin _ (.bool (cond neg (!(b1 == b2)) (b1 == b2))) hg (.fv (.bool _)) (fun p q hp hq => guardOk p q (by rw [← hp, e1])) ?_
        rw [e1, e2, hopn]
        cases neg <;> simp [Go.binOp, run_eqBool hT.und]
      · rename_i id off ha hck
        have hc1 := hT.scalar ha
        rw [hck] at hc1
        obtain ⟨el, hdd⟩ : ∃ el, d = .pointer el := by cases d <;> simp [ck1] at hc1; exact ⟨_, rfl⟩
        subst hdd
        obtain ⟨⟨b, o', hv⟩, hg⟩ := live_ptr (f := fun _ => out o.dst (.fv (.bool neg)) []) hs hg
        have e2 := ht.raw_inv
        refine fin _ (.bool neg) hg (.fv (.bool _)) (fun p q hp hq => ?_) ?_
        · subst hp hq; rw [hv, e2, hopn]; cases neg <;> simp [eqGuard]
        · rw [hv, e2, hopn]
          cases neg <;> simp [Go.binOp, run_eqNil hT.und]
      · rename_i ha hck
        have hc1 := hT.scalar ha
        rw [hck] at hc1
        obtain ⟨el, hdd⟩ : ∃ el, d = .pointer el := by cases d <;> simp [ck1] at hc1; exact ⟨_, rfl⟩
        subst hdd
        have e1 := hs.raw_inv
        have e2 := ht.raw_inv
        refine fin _ (.bool (!neg)) hg (.fv (.bool _)) (fun p q hp hq => ?_) ?_
        · subst hp hq; rw [e1, e2, hopn]; cases neg <;> simp [eqGuard]
        · rw [e1, e2, hopn]
          cases neg <;> simp [Go.binOp, run_eqNil hT.und]
      · exact (gets_fail hg).elim
    split at hg
    · rename_i i hi; exact eqDone false rfl i hi hg
    · rename_i i hi; exact eqDone true rfl i hi hg
    · exact (gets_fail hg).elim

end
end Rf
