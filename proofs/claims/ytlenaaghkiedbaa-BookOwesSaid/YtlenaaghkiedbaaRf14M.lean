/- Maps: what an operation on a map does, against what it does to the abstract one. -/
import Derived.Test.YtlenaaghkiedbaaRf13
import Derived.Laws.StructEq
import Derived.ChangeKeysEq
namespace Rf
open Go

/-! ### the same make -/

theorem ckEq_eq : ∀ {a b : CK}, ckEq a b = true → a = b := by
  intro a b h
  cases a <;> cases b <;> simp only [ckEq, Bool.false_eq_true] at h
  · rw [kindEq_iff.1 h]
  · rfl
  · rfl
  · rw [Nat.eq_of_beq_eq_true h]
  · rw [(rawOk_eq h).1]
theorem cksEq_eq : ∀ {a b : List CK}, cksEq a b = true → a = b
  | [], [], _ => rfl
  | [], _ :: _, h => by simp [cksEq] at h
  | _ :: _, [], h => by simp [cksEq] at h
  | a :: as, b :: bs, h => by
    simp only [cksEq, Bool.and_eq_true] at h
    rw [ckEq_eq h.1, cksEq_eq h.2]
theorem zEq1_eq {a b : FV} (h : zEq1 a b = true) : a = b := by
  unfold zEq1 at h
  split at h
  · simp only [Bool.and_eq_true] at h
    obtain ⟨h1, h2⟩ := h
    rw [kindEq_iff.1 h1]
    split at h2
    · rfl
    · simp at h2
  · rfl
  · rfl
  · rw [Nat.eq_of_beq_eq_true h]
  · rw [(rawOk_eq h).1]
  · simp at h
theorem zEqs_eq : ∀ {a b : List FV}, zEqs a b = true → a = b
  | [], [], _ => rfl
  | [], _ :: _, h => by simp [zEqs] at h
  | _ :: _, [], h => by simp [zEqs] at h
  | a :: as, b :: bs, h => by
    simp only [zEqs, Bool.and_eq_true] at h
    rw [zEq1_eq h.1, zEqs_eq h.2]
theorem zEq_eq {a b : FV} (h : zEq a b = true) : a = b := by
  unfold zEq at h
  split at h
  · rw [zEqs_eq h]
  · simp at h
  · simp at h
  · exact zEq1_eq h
theorem mkEq_eq {a a' : Bool} {b b' : List CK} {c c' : FV} (h : mkEq a b c a' b' c' = true) : a = a' ∧ b = b' ∧ c = c' := by
  simp only [mkEq, Bool.and_eq_true] at h
  refine ⟨?_, cksEq_eq h.1.2, zEq_eq h.2⟩
  have := h.1.1
  cases a <;> cases a' <;> simp_all [bEq]

/-! ### keys -/

theorem kfit_inv {c : CK} {x : FV} (h : kfit c x = true) : (∃ k n, c = .int k ∧ x = .int k n) ∨ (∃ b, c = .bool ∧ x = .bool b) ∨ ∃ s, c = .str ∧ x = .str s := by
  unfold kfit at h
  split at h <;> first | exact .inl ⟨_, _, rfl, rfl⟩ | exact .inr (.inl ⟨_, rfl, rfl⟩) | exact .inr (.inr ⟨_, rfl, rfl⟩) | simp at h

section
variable {P : Program} {w w' : World} {S : Nat → Prop}

theorem basic_plain {t : TypeId} {c : CK} (h : basicT P t c = true) : P.plainKey t = true := by
  unfold basicT at h
  unfold Program.plainKey
  split at h <;> simp_all

theorem run_eqBasic {t : TypeId} {c : CK} {x y : FV} {v u : Value} (d : Nat) (hb : basicT P t c = true) (hx : kfit c x = true) (hy : kfit c y = true) (hv : FRep w S x v) (hu : FRep w S y u) :
    (Op.equalIn (d + 1) t v u).run P w' = .ok (keq1 x y) w' := by
  rcases kfit_inv hx with ⟨k, n, rfl, rfl⟩ | ⟨b, rfl, rfl⟩ | ⟨s, rfl, rfl⟩
  · rcases kfit_inv hy with ⟨k', n', hc, rfl⟩ | ⟨b', hc, rfl⟩ | ⟨s', hc, rfl⟩ <;> cases hc
    cases hv; cases hu
    unfold basicT at hb
    split at hb <;> simp_all
    rw [run_equalIn_int w' d t _ _ n n' (by assumption)]; rfl
  · rcases kfit_inv hy with ⟨k', n', hc, rfl⟩ | ⟨b', hc, rfl⟩ | ⟨s', hc, rfl⟩ <;> cases hc
    cases hv; cases hu
    unfold basicT at hb
    split at hb <;> simp_all
    rw [run_equalIn_bool' w' d t b b' (by assumption)]; rfl
  · rcases kfit_inv hy with ⟨k', n', hc, rfl⟩ | ⟨b', hc, rfl⟩ | ⟨s', hc, rfl⟩ <;> cases hc
    cases hv; cases hu
    unfold basicT at hb
    split at hb <;> simp_all
    rw [run_equalIn_string w' d t s s' (by assumption)]; rfl

theorem basic_isKey {t : TypeId} {c : CK} {x : FV} {v : Value} (hb : basicT P t c = true) (hx : kfit c x = true) (hv : FRep w S x v) : ∃ d, P.underlying t = some d ∧ MapKept.IsKey d v := by
  rcases kfit_inv hx with ⟨k, n, rfl, rfl⟩ | ⟨b, rfl, rfl⟩ | ⟨s, rfl, rfl⟩ <;> cases hv <;> (unfold basicT at hb; split at hb <;> simp_all [MapKept.IsKey])
  rw [kindEq_iff.1 hb]

theorem run_checkBasic {t : TypeId} {c : CK} {x : FV} {v : Value} (em : Bool) (n : Nat) (hb : basicT P t c = true) (hx : kfit c x = true) (hv : FRep w S x v) : (Instr.checkKey em (n + 1) t v).run P w' = .ok () w' := by
  obtain ⟨d, h1, h2⟩ := basic_isKey hb hx hv
  exact MapKept.run_checkKey h1 h2 em n

/-- cells of a key that is a struct -/
def CellsAt (w : World) (S : Nat → Prop) (xs : List FV) (j : Nat) (vs : Array Value) : Prop := ∀ i x, xs[i]? = some x → ∃ v, vs[j + i]? = some v ∧ FRep w S x v

theorem CellsAt.tail {x : FV} {xs : List FV} {j : Nat} {vs : Array Value} (h : CellsAt w S (x :: xs) j vs) : CellsAt w S xs (j + 1) vs := fun i y hy => by
  have := h (i + 1) y (by simpa using hy)
  rwa [show j + 1 + i = j + (i + 1) by omega]

theorem run_eqFlds (d : Nat) {vs us : Array Value} : ∀ {fs : List Field} {j : Nat} {cs : List CK} {xs ys : List FV}, fldsOk P fs j cs = true → kfits cs xs = true → kfits cs ys = true → CellsAt w S xs j vs → CellsAt w S ys j us →
    (Op.eqFields (d + 1) vs us fs).run P w' = .ok (keqs xs ys) w'
  | [], j, [], [], [], _, _, _, _, _ => by simp [Op.eqFields, keqs]
  | [], _, [], _ :: _, _, _, h, _, _, _ => by simp [kfits] at h
  | [], _, [], _, _ :: _, _, _, h, _, _ => by simp [kfits] at h
  | [], _, _ :: _, _, _, h, _, _, _, _ => by simp [fldsOk] at h
  | _ :: _, _, [], _, _, h, _, _, _, _ => by simp [fldsOk] at h
  | _ :: _, _, _ :: _, [], _, _, h, _, _, _ => by simp [kfits] at h
  | _ :: _, _, _ :: _, _, [], _, _, h, _, _ => by simp [kfits] at h
  | f :: fs, j, c :: cs, x :: xs, y :: ys, h, hx, hy, hv, hu => by
    simp only [fldsOk, Bool.and_eq_true, bne_iff_ne, beq_iff_eq] at h
    simp only [kfits, Bool.and_eq_true] at hx hy
    obtain ⟨⟨⟨h1, h2⟩, h3⟩, h4⟩ := h
    obtain ⟨v, q1, q2⟩ := hv 0 x rfl
    obtain ⟨u, p1, p2⟩ := hu 0 y rfl
    rw [Nat.add_zero] at q1 p1
    have ih := run_eqFlds d h4 hx.2 hy.2 hv.tail hu.tail
    rw [← h2] at q1 p1
    simp only [Op.eqFields, h1, ne_eq, not_false_eq_true, if_true, Sem.run_bind, run_part_plain w' (basic_plain h3) q1, run_part_plain w' (basic_plain h3) p1, run_eqBasic d h3 hx.1 hy.1 q2 p2, Result.andThen_ok]
    cases hk : keq1 x y with
    | false => simp [keqs, hk]
    | true => simpa [keqs, hk] using ih

theorem run_checkFlds (em : Bool) (n : Nat) {vs : Array Value} : ∀ {fs : List Field} {j : Nat} {cs : List CK} {xs : List FV}, fldsOk P fs j cs = true → kfits cs xs = true → CellsAt w S xs j vs →
    (forIn (m := Sem) fs PUnit.unit (fun f _ => if f.name ≠ "_" then (do
      let l ← part f.type vs f.offset
      Instr.checkKey em (n + 1) f.type l
      pure (ForInStep.yield PUnit.unit)) else pure (ForInStep.yield PUnit.unit))).run P w' = .ok PUnit.unit w'
  | [], _, _, _, _, _, _ => by simp
  | _ :: _, _, [], _, h, _, _ => by simp [fldsOk] at h
  | _ :: _, _, _ :: _, [], _, h, _ => by simp [kfits] at h
  | f :: fs, j, c :: cs, x :: xs, h, hx, hv => by
    simp only [fldsOk, Bool.and_eq_true, bne_iff_ne, beq_iff_eq] at h
    simp only [kfits, Bool.and_eq_true] at hx
    obtain ⟨⟨⟨h1, h2⟩, h3⟩, h4⟩ := h
    obtain ⟨v, q1, q2⟩ := hv 0 x rfl
    rw [Nat.add_zero] at q1
    have ih := run_checkFlds em n h4 hx.2 hv.tail
    rw [← h2] at q1
    rw [List.forIn_cons]
    simp only [h1, ne_eq, not_false_eq_true, if_true, Sem.run_bind, run_part_plain w' (basic_plain h3) q1, run_checkBasic em n h3 hx.1 q2, Result.andThen_ok, Sem.run_pure]
    exact ih

theorem agg_cells {cs : List FV} {v : Value} (h : FRep w S (.agg cs) v) : ∃ vs, v = .agg vs ∧ CellsAt w S cs 0 vs := by
  cases h with
  | agg _ vs hs h =>
    refine ⟨vs, rfl, fun i x hx => ?_⟩
    have := h i x hx
    have hi : i < vs.size := by rw [hs]; exact (List.getElem?_eq_some_iff.1 hx).1
    refine ⟨vs[i], by rw [Nat.zero_add]; exact Array.getElem?_eq_getElem hi, ?_⟩
    simpa [Array.getD_eq_getD_getElem?, hi] using this

theorem keyIs_one {ks : List CK} {k : FV} (h : keyIs false ks k = true) : ∃ c, ks = [c] ∧ kfit c k = true ∧ k.cells = [k] := by
  simp only [keyIs, cond_false, Bool.and_eq_true, Bool.not_eq_true'] at h
  cases k with
  | agg cs => simp [FV.isAgg] at h
  | _ =>
    obtain ⟨_, h⟩ := h
    simp only [FV.cells] at h
    cases ks with
    | nil => simp [kfits] at h
    | cons c cs =>
      cases cs with
      | nil => exact ⟨c, rfl, by simpa [kfits] using h, rfl⟩
      | cons _ _ => simp [kfits] at h

theorem keyIs_agg {ks : List CK} {k : FV} (h : keyIs true ks k = true) : ∃ cs, k = .agg cs ∧ kfits ks cs = true := by
  simp only [keyIs, cond_true, Bool.and_eq_true] at h
  cases k with
  | agg cs => exact ⟨cs, rfl, h.2⟩
  | _ => simp [FV.isAgg] at h

/-- what is asked of a key's type: a struct of plain fields, or one plain kind -/
theorem chkKey_inv {kt : TypeId} {ki : TyI} (h : chkKey P kt ki = true) :
    (∃ fs, P.underlying kt = some (.struct fs) ∧ ki.agg = true ∧ P.stoodInHeld kt = false ∧ fldsOk P fs.toList 0 ki.ck = true) ∨
    (∃ d c, P.underlying kt = some d ∧ (∀ fs, d ≠ .struct fs) ∧ ki.agg = false ∧ ki.ck = [c] ∧ basicT P kt c = true) := by
  unfold chkKey at h
  split at h
  · rename_i fs hu
    simp only [Bool.and_eq_true, Bool.not_eq_true'] at h
    exact .inl ⟨fs, hu, h.1.1, h.1.2, h.2⟩
  · rename_i d hne hu
    simp only [Bool.and_eq_true, Bool.not_eq_true'] at h
    obtain ⟨h1, h2⟩ := h
    split at h2
    · rename_i c hc
      exact .inr ⟨d, c, hu, fun fs q => hne fs (by rw [← q]), h1, hc, h2⟩
    · simp at h2
  · simp at h

theorem run_checkKey' {kt : TypeId} {ki : TyI} {x : FV} {v : Value} (em : Bool) (hc : chkKey P kt ki = true) (hx : keyIs ki.agg ki.ck x = true) (hv : FRep w S x v) : (Instr.checkKey em 10000 kt v).run P w' = .ok () w' := by
  rcases chkKey_inv hc with ⟨fs, h1, h2, h3, h4⟩ | ⟨d, c, h1, _, h2, h3, h4⟩
  · rw [h2] at hx
    obtain ⟨cs, rfl, hk⟩ := keyIs_agg hx
    obtain ⟨vs, rfl, hcell⟩ := agg_cells hv
    have := run_checkFlds (w' := w') em 9998 h4 hk hcell
    unfold Instr.checkKey
    simp only [Sem.run_bind, run_underlying h1, Result.andThen_ok]
    rw [← Array.forIn_toList]
    refine (congrArg (fun r : Result PUnit => r.andThen fun _ w' => Sem.run P (pure ()) w') this).trans ?_
    simp
  · rw [h2, h3] at hx
    obtain ⟨c', hc', hf, _⟩ := keyIs_one hx
    cases hc'
    exact run_checkBasic em 9999 h4 hf hv

theorem run_equalKey {kt : TypeId} {ki : TyI} {x y : FV} {v u : Value} (hc : chkKey P kt ki = true) (hx : keyIs ki.agg ki.ck x = true) (hy : keyIs ki.agg ki.ck y = true) (hv : FRep w S x v) (hu : FRep w S y u) :
    (Op.equal kt v u).run P w' = .ok (keq x y) w' := by
  rcases chkKey_inv hc with ⟨fs, h1, h2, h3, h4⟩ | ⟨d, c, h1, _, h2, h3, h4⟩
  · rw [h2] at hx hy
    obtain ⟨cs, rfl, hk⟩ := keyIs_agg hx
    obtain ⟨ds, rfl, hl⟩ := keyIs_agg hy
    obtain ⟨vs, rfl, hcell⟩ := agg_cells hv
    obtain ⟨us, rfl, hdell⟩ := agg_cells hu
    have hfs : P.fieldsOf kt = fs := by simp [Program.fieldsOf, h1]
    have := run_eqFlds (w' := w') 9998 h4 hk hl hcell hdell
    show (Op.equalIn (9999 + 1) kt (.agg vs) (.agg us)).run P w' = _
    rw [run_equalIn_struct w' 9999 kt vs us (by rw [hfs]; exact h1) h3, hfs]
    exact this
  · rw [h2, h3] at hx hy
    obtain ⟨c', hc', hf, e1⟩ := keyIs_one hx
    cases hc'
    obtain ⟨c', hc', hf', e2⟩ := keyIs_one hy
    cases hc'
    have := run_eqBasic (w' := w') 9999 h4 hf hf' hv hu
    show (Op.equalIn (9999 + 1) kt v u).run P w' = _
    rw [this, keq, e1, e2]
    simp [keqs]

theorem keq1_eq {c : CK} {x y : FV} (hx : kfit c x = true) (hy : kfit c y = true) : keq1 x y = true ↔ x = y := by
  rcases kfit_inv hx with ⟨k, n, rfl, rfl⟩ | ⟨b, rfl, rfl⟩ | ⟨s, rfl, rfl⟩ <;> rcases kfit_inv hy with ⟨k', n', hc, rfl⟩ | ⟨b', hc, rfl⟩ | ⟨s', hc, rfl⟩ <;> cases hc
  · simp [keq1]
  · simp [keq1]
  · simp only [keq1, beq_iff_eq, FV.str.injEq]
    constructor
    · intro h
      have := (beq_toListBytes s s').trans (beq_iff_eq.2 (by simpa using h))
      exact (MapKept.bytes_beq s s').1 this
    · rintro rfl; rfl

theorem keqs_eq : ∀ {cs : List CK} {xs ys : List FV}, kfits cs xs = true → kfits cs ys = true → (keqs xs ys = true ↔ xs = ys)
  | [], [], [], _, _ => by simp [keqs]
  | [], _ :: _, _, h, _ => by simp [kfits] at h
  | [], _, _ :: _, _, h => by simp [kfits] at h
  | _ :: _, [], _, h, _ => by simp [kfits] at h
  | _ :: _, _, [], _, h => by simp [kfits] at h
  | c :: cs, x :: xs, y :: ys, hx, hy => by
    simp only [kfits, Bool.and_eq_true] at hx hy
    simp only [keqs, Bool.and_eq_true, keq1_eq hx.1 hy.1, keqs_eq hx.2 hy.2, List.cons.injEq]

theorem keq_eq {kag : Bool} {ks : List CK} {x y : FV} (hx : keyIs kag ks x = true) (hy : keyIs kag ks y = true) : keq x y = true ↔ x = y := by
  cases kag with
  | true =>
    obtain ⟨cs, rfl, h1⟩ := keyIs_agg hx
    obtain ⟨ds, rfl, h2⟩ := keyIs_agg hy
    simp only [keq, FV.cells, keqs_eq h1 h2, FV.agg.injEq]
  | false =>
    obtain ⟨c, rfl, h1, e1⟩ := keyIs_one hx
    obtain ⟨c', hc, h2, e2⟩ := keyIs_one hy
    cases hc
    simp only [keq, e1, e2, keqs, Bool.and_true, keq1_eq h1 h2]

theorem kfit_val {c : CK} {x : FV} {v u : Value} (hx : kfit c x = true) (hv : FRep w S x v) (hu : FRep w S x u) : v = u ∧ ∀ n, Instr.sameBits n v v = true := by
  rcases kfit_inv hx with ⟨k, n, rfl, rfl⟩ | ⟨b, rfl, rfl⟩ | ⟨s, rfl, rfl⟩ <;> cases hv <;> cases hu <;> refine ⟨rfl, fun n => ?_⟩ <;> cases n <;> simp [Instr.sameBits, (MapKept.bytes_beq _ _).2 rfl]

theorem key_val {kag : Bool} {ks : List CK} {x : FV} {v u : Value} (hx : keyIs kag ks x = true) (hv : FRep w S x v) (hu : FRep w S x u) : v = u ∧ Instr.sameBits 10000 v v = true := by
  cases kag with
  | false =>
    obtain ⟨c, rfl, h1, e1⟩ := keyIs_one hx
    exact ⟨(kfit_val h1 hv hu).1, (kfit_val h1 hv hv).2 _⟩
  | true =>
    obtain ⟨cs, rfl, h1⟩ := keyIs_agg hx
    have hfit : ∀ {ks : List CK} {cs : List FV}, kfits ks cs = true → ∀ (i : Nat) (x : FV), cs[i]? = some x → ∃ c, kfit c x = true := by
      intro ks
      induction ks with
      | nil => intro cs h i x hi; cases cs <;> simp_all [kfits]
      | cons c ks ih =>
        intro cs h i x hi
        cases cs with
        | nil => simp at hi
        | cons y cs =>
          simp only [kfits, Bool.and_eq_true] at h
          cases i with
          | zero => simp at hi; subst hi; exact ⟨c, h.1⟩
          | succ i => exact ih h.2 i x (by simpa using hi)
    cases hv with
    | agg _ vs hs h =>
      cases hu with
      | agg _ us hs' h' =>
        have heq : ∀ i (hi : i < vs.size), vs[i]? = us[i]? ∧ ∀ n, Instr.sameBits n vs[i] vs[i] = true := fun i hi => by
          have hc : i < cs.length := by rw [← hs]; exact hi
          obtain ⟨c, hc'⟩ := hfit h1 i cs[i] (List.getElem?_eq_getElem hc)
          have q1 := h i cs[i] (List.getElem?_eq_getElem hc)
          have q2 := h' i cs[i] (List.getElem?_eq_getElem hc)
          have hi' : i < us.size := by rw [hs']; exact hc
          rw [Array.getD_eq_getD_getElem?, Array.getElem?_eq_getElem hi, Option.getD_some] at q1
          rw [Array.getD_eq_getD_getElem?, Array.getElem?_eq_getElem hi', Option.getD_some] at q2
          rw [Array.getElem?_eq_getElem hi, Array.getElem?_eq_getElem hi', (kfit_val hc' q1 q2).1]
          exact ⟨rfl, by rw [← (kfit_val hc' q1 q2).1]; exact (kfit_val hc' q1 q1).2⟩
        refine ⟨?_, ?_⟩
        · congr 1
          apply Array.ext_getElem?
          intro i
          by_cases hi : i < vs.size
          · exact (heq i hi).1
          · rw [Array.getElem?_eq_none (by omega), Array.getElem?_eq_none (by omega)]
        · unfold Instr.sameBits
          simp only [beq_self_eq_true, Bool.true_and, List.all_eq_true]
          rintro ⟨p1, p2⟩ hp
          obtain ⟨i, hi⟩ := List.mem_iff_getElem?.1 hp
          rw [List.getElem?_zip_eq_some] at hi
          obtain ⟨i1, i2⟩ := hi
          simp only at i1 i2
          have hlt : i < vs.size := by
            have := (List.getElem?_eq_some_iff.1 i1).1; simpa using this
          rw [i1] at i2
          rw [Array.getElem?_toList, Array.getElem?_eq_getElem hlt] at i1
          simp only [Option.some.injEq] at i1 i2
          subst i2
          rw [← i1]
          exact (heq i hlt).2 _

theorem run_keyStays {kag : Bool} {ks : List CK} {x : FV} {v u : Value} (hx : keyIs kag ks x = true) (hv : FRep w S x v) (hu : FRep w S x u) : (Instr.keyThatStays v u).run P w' = .ok u w' := by
  obtain ⟨rfl, h⟩ := key_val hx hv hu
  simp [Instr.keyThatStays, h]

end
end Rf
