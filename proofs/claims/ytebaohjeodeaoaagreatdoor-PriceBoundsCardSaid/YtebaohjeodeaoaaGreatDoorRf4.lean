/- What an operation of the machine does, against what it does to the abstract memory: words, types, and the operations that write a slot alone. -/
import Derived.Test.YtebaohjeodeaoaaGreatDoorRf3
import Derived.Laws.Cells
import Derived.Laws.CopyRow
namespace Rf
open Go

/-! ### types -/

def zeroOk : CK → Value → Bool
  | .int k, .int k' n => kindEq k k' && n == 0
  | .bool, .bool b => !b
  | .str, .string s => s.data.size == 0
  | .lst _, .slice none 0 0 => true
  | .raw v, v' => rawOk v v'
  | _, _ => false

def zerosOk : List CK → List Value → Bool
  | [], [] => true
  | c :: cs, v :: vs => zeroOk c v && zerosOk cs vs
  | _, _ => false

def isAgg' : Value → Bool
  | .agg _ => true
  | _ => false

def ck1 : TypeDesc → List CK → Bool
  | .int k, [.int k'] => kindEq k k'
  | .bool, [.bool] => true
  | .string, [.str] => true
  | .slice _, [.lst _] => true
  | .pointer _, [.raw (.pointer none)] => true
  | .map _ _, [.raw (.map none)] => true
  | .func _ _ _, [.raw .nilFunc] => true
  | .interface _, [.raw .nilIface] => true
  | _, _ => false

def descOk (d : TypeDesc) (i : TyI) : Bool :=
  match d with
  | .struct fs => i.agg && (fs.toList.map fun f => (f.offset, f.type)) == i.flds
  | .array _ _ => i.agg && i.flds.isEmpty
  | .slice e => !i.agg && i.flds.isEmpty && i.elem == e && ck1 d i.ck
  | d => !i.agg && i.flds.isEmpty && ck1 d i.ck

def chkTy (P : Program) (t : TypeId) (i : TyI) : Bool :=
  match P.info? t, P.underlying t with
  | some inf, some d => inf.size == i.size && inf.bytes == i.bytes && i.ck.length == i.size && (match inf.zero with | some z => zerosOk i.ck z.cells.toList && (i.agg == isAgg' z) | none => false) && descOk d i
  | _, _ => false

structure TyOk (P : Program) (t : TypeId) (i : TyI) (inf : TypeInfo) (d : TypeDesc) (z : Value) : Prop where
  info : P.info? t = some inf
  und : P.underlying t = some d
  size : inf.size = i.size
  bytes : inf.bytes = i.bytes
  len : i.ck.length = i.size
  zero : inf.zero = some z
  zeros : zerosOk i.ck z.cells.toList = true
  zagg : i.agg = isAgg' z
  desc : descOk d i = true

theorem chkTy_ok {P : Program} {t : TypeId} {i : TyI} (h : chkTy P t i = true) : ∃ inf d z, TyOk P t i inf d z := by
  unfold chkTy at h
  cases h1 : P.info? t with
  | none => simp [h1] at h
  | some inf =>
    cases h2 : P.underlying t with
    | none => simp [h1, h2] at h
    | some d =>
      simp only [h1, h2] at h
      cases h3 : inf.zero with
      | none => simp [h3] at h
      | some z =>
        simp only [h3, Bool.and_eq_true, beq_iff_eq] at h
        obtain ⟨⟨⟨⟨a, b⟩, c⟩, e, f⟩, g⟩ := h
        exact ⟨inf, d, z, h1, h2, a, b, c, h3, e, f, g⟩

/-! ### keys of maps -/

def basicT (P : Program) (t : TypeId) (c : CK) : Bool :=
  match P.underlying t, c with
  | some (.int k), .int k' => kindEq k k'
  | some .bool, .bool => true
  | some .string, .str => true
  | _, _ => false
def fldsOk (P : Program) : List Field → Nat → List CK → Bool
  | [], _, [] => true
  | f :: fs, j, c :: cs => f.name != "_" && f.offset == j && basicT P f.type c && fldsOk P fs (j + 1) cs
  | _, _, _ => false
def chkKey (P : Program) (kt : TypeId) (ki : TyI) : Bool :=
  match P.underlying kt with
  | some (.struct fs) => ki.agg && !(P.stoodInHeld kt) && fldsOk P fs.toList 0 ki.ck
  | some _ => !ki.agg && (match ki.ck with | [c] => basicT P kt c | _ => false)
  | none => false
/-- what a map's type is asked -/
def chkMap (P : Program) (ty : Nat → Option TyI) (t : TypeId) (i : TyI) : Bool :=
  match i.agg, i.ck with
  | false, [.raw (.map none)] => (match P.underlying t with | some (.map k e) => Nat.beq k i.key && Nat.beq e i.elem | _ => false) && (match ty i.key with | some ki => chkKey P i.key ki | none => true)
  | _, _ => true

structure EnvOk (E : Env) : Prop where
  ty : ∀ t i, E.ty t = some i → chkTy E.P t i = true
  mapk : ∀ t i, E.ty t = some i → chkMap E.P E.ty t i = true
  fc : ∀ f fn, E.fc f = some fn → E.P.funcs[f]? = some fn ∧ (fn.name == "runtime.NumGoroutine") = false
  mixed : E.P.follows .mixedOrders = true

theorem kindEq_iff {a b : IntKind} : kindEq a b = true ↔ a = b := by cases a <;> cases b <;> simp [kindEq]

theorem zeros_len : ∀ {ck : List CK} {vs : List Value}, zerosOk ck vs = true → vs.length = ck.length
  | [], [], _ => rfl
  | [], _ :: _, h => by simp [zerosOk] at h
  | _ :: _, [], h => by simp [zerosOk] at h
  | c :: cs, v :: vs, h => by
    simp only [zerosOk, Bool.and_eq_true] at h
    simp [zeros_len h.2]

theorem rawOk_eq {v v' : Value} (h : rawOk v v' = true) : v = v' ∧ v'.oneCell' = true := by
  unfold rawOk at h
  split at h <;> first | exact ⟨rfl, rfl⟩ | (obtain rfl := Nat.eq_of_beq_eq_true h; exact ⟨rfl, rfl⟩) | simp at h

theorem zero_rep {w : World} {S : Nat → Prop} {k : CK} {v : Value} (h : zeroOk k v = true) : FRep w S k.zero v ∧ (∀ γ hd, SRep w S γ hd k.zeroS v) ∧ v.oneCell' = true := by
  cases k with
  | int k =>
    cases v <;> simp [zeroOk, kindEq_iff] at h
    obtain ⟨rfl, rfl⟩ := h
    exact ⟨.int _ _, fun _ _ => .fv (.int _ _), rfl⟩
  | bool =>
    cases v <;> simp [zeroOk] at h
    subst h
    exact ⟨.bool _, fun _ _ => .fv (.bool _), rfl⟩
  | str =>
    cases v <;> simp [zeroOk] at h
    rename_i s
    have : s = ⟨#[]⟩ := by cases s; simp_all; rfl
    subst this
    exact ⟨.str _, fun _ _ => .fv (.str _), rfl⟩
  | lst sz =>
    unfold zeroOk at h
    split at h <;> simp_all
    exact ⟨FRep.list_iff.2 ⟨none, 0, 0, 0, rfl, Nat.le_refl _, fun h => absurd rfl h, fun _ h => by simp at h, fun i j x c h => by simp at h⟩, fun _ _ => .nilS, rfl⟩
  | raw u =>
    have h' : rawOk u v = true := by simpa [zeroOk] using h
    obtain ⟨rfl, h2⟩ := rawOk_eq h'
    exact ⟨.raw _, fun _ _ => .fv (.raw _), h2⟩

theorem zeros_rep {w : World} {S : Nat → Prop} : ∀ {ck : List CK} {vs : List Value}, zerosOk ck vs = true → ∀ (j : Nat) (k : CK), ck[j]? = some k →
    ∃ v, vs[j]? = some v ∧ FRep w S k.zero v ∧ (∀ γ hd, SRep w S γ hd k.zeroS v) ∧ v.oneCell' = true
  | [], [], _, j, k, hk => by simp at hk
  | [], _ :: _, h, _, _, _ => by simp [zerosOk] at h
  | _ :: _, [], h, _, _, _ => by simp [zerosOk] at h
  | c :: cs, v :: vs, h, j, k, hk => by
    simp only [zerosOk, Bool.and_eq_true] at h
    cases j with
    | zero => simp at hk; subst hk; exact ⟨v, rfl, zero_rep h.1⟩
    | succ j => simpa using zeros_rep h.2 j k (by simpa using hk)

/-! ### what a tree gets -/

def Gets (t : RT) (M : Mem) (us : List (Key × Ent)) : Prop := ∃ lg, t.get M = some (us, lg)

section
variable {M : Mem} {us : List (Key × Ent)}

theorem gets_ret {u : List (Key × Ent)} (h : Gets (.ret u) M us) : us = u := by
  obtain ⟨lg, h⟩ := h; simp [RT.get] at h; exact h.1.symm
theorem gets_fail (h : Gets .fail M us) : False := by
  obtain ⟨lg, h⟩ := h; simp [RT.get] at h
theorem gets_rd {k : Key} {f : Ent → RT} (h : Gets (.rd k f) M us) : ∃ e, M.get k = some e ∧ Gets (f e) M us := by
  obtain ⟨lg, h⟩ := h
  simp only [RT.get] at h
  cases he : Mem.get k M with
  | none => simp [he] at h
  | some e =>
    simp only [he] at h
    cases hf : (f e).get M with
    | none => simp [hf] at h
    | some r => simp only [hf, Option.map_some, Option.some.injEq, Prod.mk.injEq] at h; exact ⟨e, rfl, r.2, by rw [hf, ← h.1]⟩
theorem gets_fresh {id : Nat} {t : RT} (h : Gets (.fresh id t) M us) : hdOf M id = none ∧ Gets t M us := by
  obtain ⟨lg, h⟩ := h
  simp only [RT.get] at h
  cases he : Mem.get (.head id) M with
  | some e => simp [he] at h
  | none =>
    simp only [he] at h
    cases hf : t.get M with
    | none => simp [hf] at h
    | some r => simp only [hf, Option.map_some, Option.some.injEq, Prod.mk.injEq] at h; exact ⟨he, r.2, by rw [hf, ← h.1]⟩
theorem gets_int {x : Option Int} {f : Int → RT} (h : Gets (.int x f) M us) : ∃ n, x = some n ∧ Gets (f n) M us := by
  obtain ⟨lg, h⟩ := h; simp only [RT.get, Option.bind_eq_some_iff] at h; obtain ⟨n, h1, h2⟩ := h; exact ⟨n, h1, lg, h2⟩
theorem gets_nat {x : Option Nat} {f : Nat → RT} (h : Gets (.nat x f) M us) : ∃ n, x = some n ∧ Gets (f n) M us := by
  obtain ⟨lg, h⟩ := h; simp only [RT.get, Option.bind_eq_some_iff] at h; obtain ⟨n, h1, h2⟩ := h; exact ⟨n, h1, lg, h2⟩
theorem gets_boo {x : Option Bool} {f : Bool → RT} (h : Gets (.boo x f) M us) : ∃ n, x = some n ∧ Gets (f n) M us := by
  obtain ⟨lg, h⟩ := h; simp only [RT.get, Option.bind_eq_some_iff] at h; obtain ⟨n, h1, h2⟩ := h; exact ⟨n, h1, lg, h2⟩
theorem gets_str {x : Option ByteArray} {f : ByteArray → RT} (h : Gets (.str x f) M us) : ∃ n, x = some n ∧ Gets (f n) M us := by
  obtain ⟨lg, h⟩ := h; simp only [RT.get, Option.bind_eq_some_iff] at h; obtain ⟨n, h1, h2⟩ := h; exact ⟨n, h1, lg, h2⟩
theorem gets_lst {x : Option (List FV)} {f : List FV → RT} (h : Gets (.lst x f) M us) : ∃ n, x = some n ∧ Gets (f n) M us := by
  obtain ⟨lg, h⟩ := h; simp only [RT.get, Option.bind_eq_some_iff] at h; obtain ⟨n, h1, h2⟩ := h; exact ⟨n, h1, lg, h2⟩
theorem gets_cnd {b : Bool} {t e : RT} (h : Gets (.cnd b t e) M us) : (b = true ∧ Gets t M us) ∨ (b = false ∧ Gets e M us) := by
  obtain ⟨lg, h⟩ := h; simp only [RT.get] at h
  cases b
  · exact .inr ⟨rfl, lg, h⟩
  · exact .inl ⟨rfl, lg, h⟩
theorem gets_bif {b : Bool} {t : RT} (h : Gets (bif b then t else .fail) M us) : b = true ∧ Gets t M us := by
  cases b
  · exact (gets_fail h).elim
  · exact ⟨rfl, h⟩
theorem gets_ty {E : Env} {t : TypeId} {f : TyI → RT} (hE : EnvOk E) (h : Gets (ty E t f) M us) : ∃ i inf d z, TyOk E.P t i inf d z ∧ Gets (f i) M us := by
  unfold ty at h
  cases hi : E.ty t with
  | none => rw [hi] at h; exact (gets_fail h).elim
  | some i =>
    rw [hi] at h
    obtain ⟨inf, d, z, k⟩ := chkTy_ok (hE.ty t i hi)
    exact ⟨i, inf, d, z, k, h⟩
theorem gets_rdHead {id : Nat} {f : Ent → RT} (h : Gets (rdHead id f) M us) : ∃ e, hdOf M id = some e ∧ Gets (f e) M us := gets_rd h
end

section
variable {X : Cx} {M : Mem} {a : Act} {w : World} {γ : Nat → Gh} {S : Nat → Prop} {us : List (Key × Ent)}

theorem constSV_rep {hd : Nat → Option Ent} (v : Value) : SRep w S γ hd (constSV v) v := by
  unfold constSV
  split
  · exact .fv (.int _ _)
  · exact .fv (.bool _)
  · exact .fv (.str _)
  · exact .nilS
  · exact .fv (.raw _)

theorem gets_opd (h : Rel X M a w γ S) {x : Operand} {f : SV → RT} (hg : Gets (opd x f) M us) : ∃ s, SRep w S γ (hdOf M) s (a.eval x) ∧ Gets (f s) M us := by
  unfold opd at hg
  split at hg
  · rename_i t
    obtain ⟨e, he, hg⟩ := gets_rd hg
    split at hg
    · exact ⟨_, h.slot t _ he, hg⟩
    · exact (gets_fail hg).elim
  · exact ⟨_, constSV_rep _, hg⟩
  · exact (gets_fail hg).elim
  · exact ⟨_, .fv (.raw _), hg⟩

theorem gets_opds (h : Rel X M a w γ S) : ∀ {xs : List Operand} {f : List SV → RT}, Gets (opds xs f) M us →
    ∃ ss, ss.length = xs.length ∧ (∀ (j : Nat) (x : Operand), xs[j]? = some x → ∃ s, ss[j]? = some s ∧ SRep w S γ (hdOf M) s (a.eval x)) ∧ Gets (f ss) M us
  | [], f, hg => ⟨[], rfl, fun j x hx => by simp at hx, hg⟩
  | x :: xs, f, hg => by
    unfold opds at hg
    obtain ⟨s, hs, hg⟩ := gets_opd h hg
    obtain ⟨ss, h1, h2, hg⟩ := gets_opds h hg
    refine ⟨s :: ss, by simp [h1], fun j y hy => ?_, hg⟩
    cases j with
    | zero => simp at hy; subst hy; exact ⟨s, rfl, hs⟩
    | succ j => simpa using h2 j y (by simpa using hy)

/-- The end of an operation that writes its slot, and nothing else. -/
theorem put_end (h : Rel X M a w γ S) {o : Oper} (hd : ∀ d, o.dst = some d → X.Dst d) {s : SV} {v : Value} (hs : SRep w S γ (hdOf M) s v) (hg : Gets (out o.dst s []) M us) :
    Rel X (us ++ M) (a.put o.dst v) w γ S := by
  unfold out at hg
  cases hdst : o.dst with
  | none => rw [hdst] at hg; rw [gets_ret hg]; exact h
  | some d => rw [hdst] at hg; rw [gets_ret hg]; exact h.put (hd d hdst) hs

/-- The goal of an operation. -/
def Goal (P : Program) (X : Cx) (M : Mem) (o : Oper) (a : Act) (w : World) (us : List (Key × Ent)) : Prop :=
  ∀ (next : Act → World → Prop) (Q : Exit → Act → World → Prop), (∀ v w' γ' S', Rel X (us ++ M) (a.put o.dst v) w' γ' S' → next (a.put o.dst v) w') → o.wp P a w next Q

theorem Goal.value {P : Program} {o : Oper} {v : Value} {w' : World} {γ' : Nat → Gh} {S' : Nat → Prop} (hr : (execOp a.eval o).run P w = .ok (.value v) w') (h : Rel X (us ++ M) (a.put o.dst v) w' γ' S') :
    Goal P X M o a w us := fun next Q hn => by
  unfold Oper.wp; rw [hr]; exact hn v w' γ' S' h

theorem Goal.value0 {P : Program} {o : Oper} {v : Value} (hr : (execOp a.eval o).run P w = .ok (.value v) w) (h : Rel X (us ++ M) (a.put o.dst v) w γ S) : Goal P X M o a w us := .value hr h

theorem Goal.skip {P : Program} {o : Oper} {w' : World} {γ' : Nat → Gh} {S' : Nat → Prop} (hr : (execOp a.eval o).run P w = .ok .skip w') (h : Rel X (us ++ M) (a.put o.dst undef) w' γ' S') :
    Goal P X M o a w us := fun next Q hn => by
  unfold Oper.wp; rw [hr]; exact hn undef w' γ' S' h

end
end Rf
