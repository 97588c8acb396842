/- Maps: the operations. -/
import Derived.Test.YtlenaaghkiedbaaRf14M
import Derived.Carry
namespace Rf
open Go

theorem FRep.ofCells {w : World} {S : Nat → Prop} {xs : List FV} {vs : Array Value} (hs : vs.size = xs.length) (h : ∀ (j : Nat) (c : FV), xs[j]? = some c → ∃ u, vs[j]? = some u ∧ FRep w S c u) : FRep w S (.agg xs) (.agg vs) :=
  .agg xs vs hs fun j c hj => by
    obtain ⟨u, h1, h2⟩ := h j c hj
    rw [Array.getD_eq_getD_getElem?, h1, Option.getD_some]; exact h2

/-! ### lists of entries -/

section
variable {P : Program} {w w' : World} {S : Nat → Prop}

/-- where a key stands, and what stands there -/
def fnd (k : FV) : List FV → List MapEntry → Nat → Option (Nat × Value)
  | x :: es, e :: r, i => if keq k (entKey x) = true then some (i, e.val) else fnd k es r (i + 1)
  | _, _, _ => none

theorem ERep.key {kag : Bool} {ks : List CK} {z x : FV} {e : MapEntry} (h : ERep w S kag ks z x e) : keyIs kag ks (entKey x) = true ∧ FRep w S (entKey x) e.key ∧ valIs z (entVal x) = true ∧ FRep w S (entVal x) e.val ∧ entBorn x = e.born := by
  obtain ⟨k, v, rfl, h1, h2, h3, h4⟩ := h
  exact ⟨h1, h3, h2, h4, rfl⟩

theorem run_findAsking {kt : TypeId} {ki : TyI} {z : FV} {k : FV} {kv : Value} (hc : chkKey P kt ki = true) (hk : keyIs ki.agg ki.ck k = true) (hv : FRep w S k kv) : ∀ {es : List FV} {l : List MapEntry} {i : Nat}, All2 (ERep w S ki.agg ki.ck z) es l →
    (Instr.findAsking kt kv l i).run P w' = .ok (fnd k es l i) w'
  | _, _, i, .nil => by simp [Instr.findAsking, fnd]
  | _, _, i, .cons (x := x) (y := e) (xs := es) (ys := l) h t => by
    obtain ⟨h1, h2, _⟩ := h.key
    have ih := run_findAsking (i := i + 1) hc hk hv t
    simp only [Instr.findAsking, Sem.run_bind, run_equalKey hc hk h1 hv h2, Result.andThen_ok, fnd]
    cases keq k (entKey x) with
    | true => simp
    | false => simpa using ih

theorem kfit_one {c : CK} {x y : FV} {v : Value} (hx : kfit c x = true) (hy : kfit c y = true) (hv : FRep w S x v) (hu : FRep w S y v) : x = y := by
  rcases kfit_inv hx with ⟨q, n, rfl, rfl⟩ | ⟨b, rfl, rfl⟩ | ⟨s, rfl, rfl⟩ <;> rcases kfit_inv hy with ⟨q', n', hc, rfl⟩ | ⟨b', hc, rfl⟩ | ⟨s', hc, rfl⟩ <;> cases hc <;> cases hv <;> cases hu <;> rfl

theorem findNow_fnd {kt : TypeId} {d : TypeDesc} {c : CK} {z : FV} {k : FV} {kv : Value} (hd : P.underlying kt = some d) (hb : basicT P kt c = true) (hk : keyIs false [c] k = true) (hv : FRep w S k kv) : ∀ {es : List FV} {l : List MapEntry} {i : Nat}, All2 (ERep w S false [c] z) es l →
    Instr.findNow d kv l i = some (fnd k es l i)
  | _, _, i, .nil => by simp [Instr.findNow, fnd]
  | _, _, i, .cons (x := x) (y := e) (xs := es) (ys := l) h t => by
    obtain ⟨h1, h2, _⟩ := h.key
    have ih := findNow_fnd (i := i + 1) hd hb hk hv t
    obtain ⟨c1, q1, f1, _⟩ := keyIs_one hk
    cases q1
    obtain ⟨c2, q2, f2, _⟩ := keyIs_one h1
    cases q2
    obtain ⟨d1, u1, k1⟩ := basic_isKey hb f1 hv
    obtain ⟨d2, u2, k2⟩ := basic_isKey hb f2 h2
    rw [hd] at u1 u2; cases u1; cases u2
    obtain ⟨r, hr, hiff⟩ := MapKept.sameNow_of_keys k1 k2
    simp only [Instr.findNow, hr, fnd]
    have hkeq : keq k (entKey x) = r := by
      rw [Bool.eq_iff_iff, hiff, keq_eq hk h1]
      constructor
      · intro he; rw [he] at hv f1; exact (kfit_val f1 hv h2).1
      · intro he
        rw [← he] at h2
        exact kfit_one f1 f2 hv h2
    rw [hkeq]
    cases r with
    | true => simp
    | false => simpa using ih

theorem run_findKey' {kt : TypeId} {ki : TyI} {z : FV} {k : FV} {kv : Value} (hc : chkKey P kt ki = true) (hk : keyIs ki.agg ki.ck k = true) (hv : FRep w S k kv) {es : List FV} {l : List MapEntry} (h : All2 (ERep w S ki.agg ki.ck z) es l) :
    (Instr.findKey kt kv l).run P w' = .ok (fnd k es l 0) w' := by
  have hask := run_findAsking (w' := w') (i := 0) hc hk hv h
  rcases chkKey_inv hc with ⟨fs, h1, h2, h3, h4⟩ | ⟨d, c, h1, _, h2, h3, h4⟩
  · simp only [Instr.findKey, Sem.run_bind, run_underlying h1, Result.andThen_ok]
    cases h with
    | nil => simp [Instr.findNow, fnd]
    | cons hh ht =>
      have : ∀ a b, Instr.sameNow (.struct fs) a b = none := fun a b => by cases a <;> cases b <;> rfl
      simp only [Instr.findNow, this]
      exact hask
  · rw [h2, h3] at hk h
    exact MapKept.run_findKey h1 (findNow_fnd h1 h4 hk hv h)

theorem fnd_spec {kag : Bool} {ks : List CK} {z k : FV} : ∀ {es : List FV} {l : List MapEntry} {i : Nat}, All2 (ERep w S kag ks z) es l →
    (fnd k es l i = none ∧ mhas es k = false ∧ (∀ y, mgetD es k y = y) ∧ (∀ e, e ∈ es → keq k (entKey e) = false)) ∨
    ∃ j x e, fnd k es l i = some (i + j, e.val) ∧ es[j]? = some x ∧ l[j]? = some e ∧ ERep w S kag ks z x e ∧ keq k (entKey x) = true ∧ mhas es k = true ∧ (∀ y, mgetD es k y = entVal x) ∧ ∀ y c, mborn es k c = entBorn x ∧
      mput es k y c = es.set j (.agg [k, y, .int .i64 (entBorn x)]) ∧ ment es k y c = es.set j (.agg [k, entVal x, .int .i64 (entBorn x)]) ∧ mdel es k = es.eraseIdx j
  | _, _, i, .nil => .inl ⟨rfl, rfl, fun _ => rfl, fun _ h => by simp at h⟩
  | _, _, i, .cons (x := x) (y := e) (xs := es) (ys := l) h t => by
    cases hk : keq k (entKey x) with
    | true =>
      refine .inr ⟨0, x, e, by simp [fnd, hk], rfl, rfl, h, hk, by simp [mhas, hk], fun y => by simp [mgetD, hk], fun y c => ?_⟩
      simp [mborn, mput, ment, mdel, hk]
    | false =>
      rcases fnd_spec (k := k) (i := i + 1) t with ⟨a, b, c, d⟩ | ⟨j, x', e', a, b, c, d, f, g, p, q⟩
      · refine .inl ⟨by simp [fnd, hk, a], by simpa [mhas, hk] using b, fun y => by simp [mgetD, hk, c y], fun e he => ?_⟩
        rcases List.mem_cons.1 he with rfl | he
        · exact hk
        · exact d e he
      · refine .inr ⟨j + 1, x', e', by simp [fnd, hk, a]; omega, by simpa using b, by simpa using c, d, f, by simp [mhas] at g ⊢; exact .inr g, fun y => by simp [mgetD, hk, p y], fun y c => ?_⟩
        obtain ⟨q1, q2, q3, q4⟩ := q y c
        simp [mborn, mput, ment, mdel, hk, q1, q2, q3, q4]

theorem mput_new {k : FV} : ∀ {es : List FV}, (∀ e, e ∈ es → keq k (entKey e) = false) → ∀ y c, mput es k y c = es ++ [.agg [k, y, .int .i64 c]] ∧ ment es k y c = es ++ [.agg [k, y, .int .i64 c]] ∧ mborn es k c = c ∧ mdel es k = es
  | [], _, y, c => by simp [mput, ment, mborn, mdel]
  | e :: es, h, y, c => by
    have h1 := h e (by simp)
    obtain ⟨q1, q2, q3, q4⟩ := mput_new (es := es) (fun e' he' => h e' (List.mem_cons_of_mem _ he')) y c
    simp [mput, ment, mborn, mdel, h1, q1, q2, q3, q4]

theorem All2.set {α β : Type} {R : α → β → Prop} {xs : List α} {ys : List β} (h : All2 R xs ys) {x : α} {y : β} (hr : R x y) : ∀ j, All2 R (xs.set j x) (ys.set j y) := by
  induction h with
  | nil => intro j; simp; exact .nil
  | cons h t ih =>
    intro j
    cases j with
    | zero => exact .cons hr t
    | succ j => exact .cons h (ih j)

theorem All2.erase {α β : Type} {R : α → β → Prop} {xs : List α} {ys : List β} (h : All2 R xs ys) : ∀ j, All2 R (xs.eraseIdx j) (ys.eraseIdx j) := by
  induction h with
  | nil => intro j; simp; exact .nil
  | cons h t ih =>
    intro j
    cases j with
    | zero => exact t
    | succ j => exact .cons h (ih j)

theorem modify_toList (arr : Array MapEntry) (j : Nat) (e : MapEntry) (f : MapEntry → MapEntry) (h : arr.toList[j]? = some e) : (arr.modify j f).toList = arr.toList.set j (f e) := by
  apply List.ext_getElem?
  intro i
  simp only [Array.getElem?_toList, Array.getElem?_modify, List.getElem?_set]
  by_cases hij : j = i
  · subst hij
    have hlt := (List.getElem?_eq_some_iff.1 h).1
    simp only [Array.getElem?_toList] at h
    simp at hlt
    rw [Array.getElem?_eq_getElem hlt] at h
    simp only [Option.some.injEq] at h
    simp [hlt, h]
  · simp [hij]

theorem msetB_spec {kag : Bool} {ks : List CK} {z : FV} {b : Int} {y : FV} {v : Value} (hy : valIs z y = true) (hv : FRep w S y v) : ∀ {es : List FV} {l : List MapEntry}, All2 (ERep w S kag ks z) es l → mhasB es b = true →
    ∃ j e, l.findIdx? (fun e => (e.born : Int) == b) = some j ∧ l[j]? = some e ∧ All2 (ERep w S kag ks z) (msetB es b y) (l.set j { e with val := v })
  | _, _, .nil, h => by simp [mhasB] at h
  | _, _, .cons (x := x) (y := e) (xs := es) (ys := l) h t, hb => by
    obtain ⟨h1, h2, h3, h4, h5⟩ := h.key
    cases hk : ((e.born : Int) == b) with
    | true =>
      refine ⟨0, e, by simp [List.findIdx?_cons, hk], rfl, ?_⟩
      simp only [msetB, h5, hk, cond_true, List.set_cons_zero]
      exact .cons ⟨_, _, rfl, h1, hy, h2, hv⟩ t
    | false =>
      have hb' : mhasB es b = true := by simpa [mhasB, h5, hk] using hb
      obtain ⟨j, e', q1, q2, q3⟩ := msetB_spec hy hv t hb'
      refine ⟨j + 1, e', by simp [List.findIdx?_cons, hk, q1], by simpa using q2, ?_⟩
      simp only [msetB, h5, hk, cond_false, List.set_cons_succ]
      exact .cons h q3

/-- entries that are only made room for give nothing else than what is not there -/
theorem mgetD_ment {k z : FV} {c : Int} : ∀ {es : List FV} (k' : FV), (∀ k2, keq k k2 = true → keq k' k2 = keq k' k) → mgetD (ment es k z c) k' z = mgetD es k' z
  | [], k', _ => by
    simp only [ment, mgetD, entKey, entVal]
    cases keq k' k <;> rfl
  | e :: es, k', h => by
    have ih := mgetD_ment (es := es) (c := c) (z := z) k' h
    simp only [ment]
    cases hk : keq k (entKey e) with
    | true =>
      simp only [cond_true, mgetD, entKey, entVal]
      have := h _ hk
      simp only [entKey] at this
      rw [this]
    | false => simp only [cond_false, mgetD, ih]

end

section
variable {E : Env} {call : FuncId → List FV → Res} {X : Cx} {M : Mem} {a : Act} {w : World} {γ : Nat → Gh} {S : Nat → Prop} {us : List (Key × Ent)} {o : Oper}

theorem keq_trans {k k2 k' : FV} (h : keq k k2 = true) : keq k' k2 = keq k' k := by
  have one : ∀ {a b : FV}, keq1 a b = true → ∀ c, keq1 c b = keq1 c a := by
    intro a b h c
    cases a <;> cases b <;> simp only [keq1, Bool.false_eq_true, beq_iff_eq] at h
    · subst h; cases c <;> rfl
    · subst h; cases c <;> rfl
    · cases c <;> simp [keq1, h]
  have all : ∀ {as bs : List FV}, keqs as bs = true → ∀ cs, keqs cs bs = keqs cs as := by
    intro as
    induction as with
    | nil => intro bs h cs; cases bs <;> simp_all [keqs]
    | cons a as ih =>
      intro bs h cs
      cases bs with
      | nil => simp [keqs] at h
      | cons b bs =>
        simp only [keqs, Bool.and_eq_true] at h
        cases cs with
        | nil => rfl
        | cons c cs => simp only [keqs, one h.1 c, ih h.2 cs]
  exact all h _

theorem gets_ty' {t : TypeId} {f : TyI → RT} (h : Gets (ty E t f) M us) : ∃ i, E.ty t = some i ∧ Gets (f i) M us := by
  unfold ty at h
  cases hi : E.ty t with
  | none => rw [hi] at h; exact (gets_fail h).elim
  | some i => rw [hi] at h; exact ⟨i, rfl, h⟩

theorem gets_mapTy {t : TypeId} {f : TyI → TyI → RT} (hE : EnvOk E) (h : Gets (mapTy E t f) M us) :
    ∃ kt et ki ei inf d z, E.P.underlying t = some (.map kt et) ∧ chkKey E.P kt ki = true ∧ TyOk E.P et ei inf d z ∧ Gets (f ki ei) M us := by
  unfold mapTy at h
  obtain ⟨i, hi, h⟩ := gets_ty' h
  have hm := hE.mapk t i hi
  split at h
  · rename_i h1 h2
    obtain ⟨ki, hki, h⟩ := gets_ty' h
    obtain ⟨ei, hei, h⟩ := gets_ty' h
    obtain ⟨inf, d, z, hT⟩ := chkTy_ok (hE.ty _ _ hei)
    simp only [chkMap, h1, h2, hki, Bool.and_eq_true] at hm
    obtain ⟨m1, m2⟩ := hm
    split at m1
    · rename_i kt et hu
      simp only [Bool.and_eq_true] at m1
      have e1 := Nat.eq_of_beq_eq_true m1.1
      have e2 := Nat.eq_of_beq_eq_true m1.2
      refine ⟨kt, et, ki, ei, inf, d, z, hu, ?_, ?_, h⟩
      · rw [e1]; exact m2
      · rw [e2]; exact hT
    · simp at m1
  · exact (gets_fail h).elim

theorem SRep.mp_inv {hd : Nat → Option Ent} {id : Nat} {v : Value} {kag : Bool} {ks : List CK} {z : FV} (h : SRep w S γ hd (.mp id) v) (he : hd id = some (.mapH kag ks z)) : v = .map (some (γ id).blk) := by
  cases h with
  | mp h _ => rfl
  | tomb hs h => simp [SV.refId] at hs; subst hs; rw [he] at h; cases h

theorem gets_theMap {t : TypeId} {m : SV} {mv : Value} {f : Nat → TyI → Bool → List CK → FV → RT} (hE : EnvOk E) (hm : SRep w S γ (hdOf M) m mv) (h : Gets (theMap E t m f) M us) :
    ∃ id kt et ki ei inf d z, m = .mp id ∧ mv = .map (some (γ id).blk) ∧ hdOf M id = some (.mapH ki.agg ki.ck ei.zeroF) ∧ E.P.underlying t = some (.map kt et) ∧ chkKey E.P kt ki = true ∧ TyOk E.P et ei inf d z ∧
      Gets (f id ei ki.agg ki.ck ei.zeroF) M us := by
  unfold theMap at h
  obtain ⟨kt, et, ki, ei, inf, d, z, h1, h2, h3, h⟩ := gets_mapTy hE h
  split at h
  · rename_i id _h
    obtain ⟨e, he, h⟩ := gets_rdHead h
    split at h
    · obtain ⟨hb, h⟩ := gets_bif h
      obtain ⟨rfl, rfl, rfl⟩ := mkEq_eq hb
      exact ⟨id, kt, et, ki, ei, inf, d, z, rfl, hm.mp_inv he, he, h1, h2, h3, h⟩
    · exact (gets_fail h).elim
  · exact (gets_fail h).elim

theorem FzOk2.frep {us : List (Key × Ent)} {s : SV} {x : FV} (hz : FzOk2 M us s x) (hf : FzList M us) (h : Rel X (us ++ M) a w γ S) {v : Value} (hv : SRep w S γ (hdOf (us ++ M)) s v) : FRep w S x v := by
  obtain ⟨h1, h2⟩ := hz.rep hf h hv
  rcases hz with ⟨cs, xs, rfl, rfl, h3, h4⟩ | ⟨q1, q2⟩
  · obtain ⟨vs, rfl, hl, hr⟩ := hv.agg_inv
    refine .ofCells (by rw [hl, h3]) fun j c hj => ?_
    obtain ⟨u, q1, q2, _⟩ := h2 j c hj
    exact ⟨u, q1, q2⟩
  · exact (q2.rep hf h hv).1

theorem gets_keyOf' (h : Rel X M a w γ S) {kag : Bool} {ks : List CK} {s : SV} {v : Value} (hs : SRep w S γ (hdOf M) s v) {f : FV → RT} (hg : Gets (keyOf' kag ks s f) M us) : ∃ k, keyIs kag ks k = true ∧ FRep w S k v ∧ Gets (f k) M us := by
  unfold keyOf' at hg
  obtain ⟨x, fz, h1, h2, hg⟩ := gets_frz2 hg
  split at hg
  · obtain ⟨hb, hg⟩ := gets_bif hg
    exact ⟨x, hb, h2.frep h1 h hs, hg⟩
  · exact (gets_fail hg).elim

theorem gets_rdMap {id c : Nat} {f : List FV → Int → RT} (hg : Gets (rdMap id c f) M us) : ∃ es clk, Mem.get (.cell id c) M = some (.map es clk) ∧ Gets (f es clk) M us := by
  unfold rdMap at hg
  obtain ⟨e, he, hg⟩ := gets_rd hg
  split at hg
  · exact ⟨_, _, he, hg⟩
  · exact (gets_fail hg).elim

theorem valIs_inv {z v : FV} (h : valIs z v = true) : v.isAgg = z.isAgg ∧ v.cells.length = z.cells.length ∧ ∀ c, c ∈ v.cells → c.flat = true := by
  simp only [valIs, Bool.and_eq_true, List.all_eq_true] at h
  refine ⟨?_, Nat.eq_of_beq_eq_true h.1.2, h.2⟩
  have := h.1.1
  cases hz : z.isAgg <;> cases hv : v.isAgg <;> simp_all

/-- an element out of what a map gives -/
theorem gets_rdVal {t : TypeId} {ti : TyI} {inf : TypeInfo} {d : TypeDesc} {z : Value} (hT : TyOk E.P t ti inf d z) {x : FV} {v : Value} (hx : valIs ti.zeroF x = true) (hv : FRep w S x v) {f : SV → RT} (hg : Gets (rdElem ti [x] 0 0 f) M us) :
    ∃ s, SRep w S γ (hdOf M) s v ∧ Gets (f s) M us := by
  obtain ⟨x1, x2, x3⟩ := valIs_inv hx
  rw [hT.zeroCells, TyI.zeros, List.length_map] at x2
  unfold rdElem at hg
  cases ha : ti.agg with
  | true =>
    rw [ha] at hg
    obtain ⟨ss, h1, h2, hg2⟩ := gets_rdFVs hg
    have hag : x.isAgg = true := by rw [x1]; simp [TyI.zeroF, ha, FV.isAgg]
    cases x <;> simp only [FV.isAgg, Bool.false_eq_true] at hag
    rename_i cs
    simp only [FV.cells] at x2
    cases hv with
    | agg _ vs hs h =>
      refine ⟨.agg ss, .agg (by rw [hs, x2, h1]) fun j s hj => ?_, hg2⟩
      obtain ⟨_, e, h3, h4⟩ := h2 j s hj
      simp only [at', List.getElem?_cons_zero, Option.bind_some, FV.cells, Nat.zero_add] at h3
      exact h4 _ _ _ _ _ (h j e h3)
  | false =>
    rw [ha] at hg
    obtain ⟨k, hk, _⟩ := hT.one ha
    simp only [cond_false, hk] at hg
    obtain ⟨e, s, h1, h2, h3, hg⟩ := gets_rdFV hg
    have hag : x.isAgg = false := by
      rw [x1]; simp only [TyI.zeroF, ha, TyI.zeros, hk]; cases k <;> rfl
    have hc : x.cells = [x] := by cases x <;> first | rfl | simp [FV.isAgg] at hag
    simp only [at', List.getElem?_cons_zero, Option.bind_some, hc, Option.some.injEq] at h1
    subst h1
    exact ⟨s, h3 _ _ _ _ _ hv, hg⟩

theorem zeroF_rep {t : TypeId} {ti : TyI} {inf : TypeInfo} {d : TypeDesc} {z : Value} (hT : TyOk E.P t ti inf d z) : FRep w S ti.zeroF z ∧ valIs ti.zeroF ti.zeroF = true := by
  have hfl : ∀ c, c ∈ ti.zeros → c.flat = true := fun c hc => by
    obtain ⟨j, hj⟩ := List.mem_iff_getElem?.1 hc
    simp only [TyI.zeros, List.getElem?_map, Option.map_eq_some_iff] at hj
    obtain ⟨k, hk, rfl⟩ := hj
    obtain ⟨v, h1, h2, h3, h4⟩ := zeros_rep (w := w) (S := S) hT.zeros j k hk
    cases k <;> try rfl
    cases h2; exact h4
  refine ⟨?_, ?_⟩
  · have hz := zeros_len hT.zeros
    cases ha : ti.agg with
    | true =>
      have hza := hT.zagg
      rw [ha] at hza
      cases z <;> simp only [isAgg', Bool.true_eq_false] at hza
      rename_i vs
      rw [TyI.zeroF, ha, cond_true]
      refine .ofCells (by simpa [TyI.zeros, Value.cells] using hz) fun j c hj => ?_
      simp only [TyI.zeros, List.getElem?_map, Option.map_eq_some_iff] at hj
      obtain ⟨k, hk, rfl⟩ := hj
      obtain ⟨v, h1, h2, _⟩ := zeros_rep (w := w) (S := S) hT.zeros j k hk
      exact ⟨v, by simpa [Value.cells] using h1, h2⟩
    | false =>
      obtain ⟨k, hk, _⟩ := hT.one ha
      obtain ⟨v, h1, h2, _, h4⟩ := zeros_rep (w := w) (S := S) hT.zeros 0 k (by simp [hk])
      have hza := hT.zagg
      rw [ha] at hza
      have hzc : z.cells = #[z] := by cases z <;> first | rfl | simp [isAgg'] at hza
      rw [hzc] at h1
      simp at h1
      subst h1
      simpa [TyI.zeroF, ha, TyI.zeros, hk] using h2
  · simp only [valIs, Bool.and_eq_true, List.all_eq_true]
    refine ⟨⟨?_, by simp⟩, fun c hc => hfl c (by rwa [hT.zeroCells] at hc)⟩
    cases h : ti.zeroF.isAgg <;> simp

theorem mapH_rep {id : Nat} {kag : Bool} {ks : List CK} {z : FV} (h : Rel X M a w γ S) (he : hdOf M id = some (.mapH kag ks z)) :
    ∃ es clk es' clk', Mem.get (.cell id 0) M = some (.map es clk) ∧ Mem.get (.cell id 1) M = some (.map es' clk') ∧ (∀ k, mgetD es' k z = mgetD es k z) ∧ MRep w S (γ id) kag ks z es clk := (h.head id _ he).2

theorem mget_rep {kag : Bool} {ks : List CK} {z k : FV} {zv : Value} {es : List FV} {l : List MapEntry} (hm : All2 (ERep w S kag ks z) es l) (hz : FRep w S z zv) (hzz : valIs z z = true) :
    valIs z (mgetD es k z) = true ∧ ∃ v, FRep w S (mgetD es k z) v ∧ (match fnd k es l 0 with | some (_, v) => v | none => zv) = v ∧ mhas es k = (fnd k es l 0).isSome := by
  rcases fnd_spec (k := k) (i := 0) hm with ⟨a, b, c, _⟩ | ⟨j, x, e, a, _, _, d, _, g, p, _⟩
  · rw [c z, a, b]; exact ⟨hzz, zv, hz, rfl, rfl⟩
  · rw [p z, a, g]
    obtain ⟨_, _, q1, q2, _⟩ := d.key
    exact ⟨q1, e.val, q2, rfl, rfl⟩

theorem run_lookup' {t kt et : TypeId} {ki ei : TyI} {inf : TypeInfo} {d : TypeDesc} {zv : Value} (hu : E.P.underlying t = some (.map kt et)) (hc : chkKey E.P kt ki = true) (hT : TyOk E.P et ei inf d zv) {b : Nat} {arr : Array MapEntry} {c : Nat}
    (hb : w.heap[b]? = some (.map arr c)) {k : FV} {kv : Value} (hk : keyIs ki.agg ki.ck k = true) (hkv : FRep w S k kv) {es : List FV} (hm : All2 (ERep w S ki.agg ki.ck ei.zeroF) es arr.toList) (ok : Bool) :
    ∃ v, (Instr.lookup t (.map (some b)) kv ok).run E.P w = .ok (if ok then .tuple #[v, .bool (mhas es k)] else v) w ∧ FRep w S (mgetD es k ei.zeroF) v ∧ valIs ei.zeroF (mgetD es k ei.zeroF) = true := by
  obtain ⟨hz, hzz⟩ := zeroF_rep (w := w) (S := S) hT
  obtain ⟨h1, v, h2, h3, h4⟩ := mget_rep (k := k) hm hz hzz
  refine ⟨v, ?_, h2, h1⟩
  have hf := run_findKey' (w' := w) hc hk hkv hm
  have hck := run_checkKey' (w' := w) arr.isEmpty hc hk hkv
  simp only [Instr.lookup, Sem.run_bind, run_underlying hu, Result.andThen_ok, MapKept.run_getObj_map hb, Sem.run_pure, hck, hf]
  cases hfn : fnd k es arr.toList 0 with
  | none =>
    rw [hfn] at h3 h4
    simp only [Option.isSome_none] at h4
    simp only at h3
    subst h3
    simp [hT.runZ, h4]
  | some p =>
    obtain ⟨j, u⟩ := p
    rw [hfn] at h3 h4
    simp only [Option.isSome_some] at h4
    simp only at h3
    subst h3
    simp [h4]

theorem sim_lookup {t : TypeId} {x y : Operand} {ok : Bool} (hE : EnvOk E) (h : Rel X M a w γ S) (hd : ∀ d, o.dst = some d → X.Dst d) (hop : o.op = .lookup t x y ok) (hg0 : Gets (rtOp E call o) M us) : Goal E.P X M o a w us := by
  unfold rtOp at hg0
  simp only [hop] at hg0
  obtain ⟨m, hm, hg⟩ := gets_opd h hg0
  obtain ⟨ks, hks, hg⟩ := gets_opd h hg
  obtain ⟨id, kt, et, ki, ei, inf, d, z, rfl, hmv, he, hu, hc, hT, hg⟩ := gets_theMap hE hm hg
  obtain ⟨k, hk, hkv, hg⟩ := gets_keyOf' h hks hg
  obtain ⟨es, clk, es', clk', c0, c1, hview, arr, c, hb, rfl, _, _, hall⟩ := mapH_rep h he
  obtain ⟨v, hrun, hv, hval⟩ := run_lookup' hu hc hT hb hk hkv hall ok
  cases ok with
  | false =>
    obtain ⟨es2, clk2, q, hg⟩ := gets_rdMap hg
    rw [c1] at q; cases q
    rw [hview k] at hg
    obtain ⟨s, hs, hg⟩ := gets_rdVal hT hval hv hg
    exact .value0 (v := v) (by simp only [Bool.false_eq_true, if_false] at hrun; simp [execOp, hop, hmv, hrun]) (put_end h hd hs hg)
  | true =>
    obtain ⟨es2, clk2, q, hg⟩ := gets_rdMap hg
    rw [c0] at q; cases q
    obtain ⟨s, hs, hg⟩ := gets_rdVal hT hval hv hg
    refine .value0 (v := .tuple #[v, .bool (mhas es k)]) (by simp only [if_true] at hrun; simp [execOp, hop, hmv, hrun]) (put_end h hd (.tup (by simp) fun j s' hj => ?_) hg)
    match j with
    | 0 => simp at hj; subst hj; exact hs
    | 1 => simp at hj; subst hj; exact .fv (.bool _)
    | j + 2 => simp at hj

end
end Rf
