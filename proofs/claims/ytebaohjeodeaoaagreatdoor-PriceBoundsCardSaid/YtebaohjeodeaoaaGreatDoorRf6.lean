/- More operations that write their slot alone: addresses, fields, slices, calls of len, min and max. -/
import Derived.Test.YtebaohjeodeaoaaGreatDoorRf5
namespace Rf
open Go

theorem addr_add (b o n : Nat) : (⟨b, o, none⟩ : Addr).add n = ⟨b, o + n, none⟩ := by
  unfold Addr.add; split <;> simp_all

section
variable {E : Env} {call : FuncId → List FV → Res} {X : Cx} {M : Mem} {a : Act} {w : World} {γ : Nat → Gh} {S : Nat → Prop} {us : List (Key × Ent)} {o : Oper}

theorem gets_sliceTy {t : TypeId} {f : TyI → RT} (hE : EnvOk E) (h : Gets (sliceTy E t f) M us) : ∃ el i inf d z, E.P.underlying t = some (.slice el) ∧ TyOk E.P el i inf d z ∧ Gets (f i) M us := by
  unfold sliceTy at h
  obtain ⟨ti, inf, d, z, hT, h⟩ := gets_ty hE h
  split at h
  · rename_i sz ha hck
    obtain ⟨i, inf', d', z', hT', h⟩ := gets_ty hE h
    have := hT.isSlice hck ha
    exact ⟨ti.elem, i, inf', d', z', by rw [hT.und, this], hT', h⟩
  · exact (gets_fail h).elim

theorem gets_isStr {t : TypeId} {f : RT} (hE : EnvOk E) (h : Gets (isStr E t f) M us) : E.P.underlying t = some .string ∧ Gets f M us := by
  unfold isStr at h
  obtain ⟨ti, inf, d, z, hT, h⟩ := gets_ty hE h
  split at h
  · rename_i ha hck
    have hc := hT.scalar ha
    rw [hck] at hc
    have : d = .string := by cases d <;> simp [ck1] at hc; rfl
    exact ⟨by rw [hT.und, this], h⟩
  · exact (gets_fail h).elim

theorem sim_unOp {op : UnOp} {xt : TypeId} {x : Operand} (h : Rel X M a w γ S) (hd : ∀ d, o.dst = some d → X.Dst d) (hop : o.op = .unOp op xt x) (hg0 : Gets (rtOp E call o) M us) : Goal E.P X M o a w us := by
  simp only [rtOp, hop] at hg0
  obtain ⟨s, hs, hg⟩ := gets_opd h hg0
  clear hg0
  unfold unOp at hg
  split at hg
  · have e := hs.int_inv
    refine .value0 (v := .int _ _) ?_ (put_end h hd (.fv (.int _ _)) hg)
    simp [execOp, hop, e, Op.unary, Op.intArith]
  · have e := hs.bool_inv
    refine .value0 (v := .bool _) ?_ (put_end h hd (.fv (.bool _)) hg)
    simp [execOp, hop, e, Op.unary]
  · have e := hs.int_inv
    refine .value0 (v := .int _ _) ?_ (put_end h hd (.fv (.int _ _)) hg)
    simp only [execOp, hop, e, Op.unary]
    rfl
  · exact (gets_fail hg).elim

theorem getD_map {xs : List Operand} {ss : List SV} {f : Operand → Value} {R : SV → Value → Prop} (hl : ss.length = xs.length) (h : ∀ (j : Nat) (x : Operand), xs[j]? = some x → ∃ s, ss[j]? = some s ∧ R s (f x))
    (j : Nat) (s : SV) (hs : ss[j]? = some s) : R s ((xs.map f).toArray.getD j undef) := by
  have hj : j < xs.length := by
    have := (List.getElem?_eq_some_iff.1 hs).1; omega
  obtain ⟨s', h1, h2⟩ := h j xs[j] (List.getElem?_eq_getElem hj)
  rw [hs] at h1; cases h1
  simpa [Array.getD_eq_getD_getElem?, List.getElem?_eq_getElem hj] using h2

theorem sim_makeFunc {fn : Fn} {first caps : Array Operand} (h : Rel X M a w γ S) (hd : ∀ d, o.dst = some d → X.Dst d) (hop : o.op = .makeFunc fn first caps) (hg0 : Gets (rtOp E call o) M us) : Goal E.P X M o a w us := by
  simp only [rtOp, hop] at hg0
  obtain ⟨fs, l1, h1, hg1⟩ := gets_opds h hg0
  obtain ⟨cs, l2, h2, hg⟩ := gets_opds h hg1
  refine .value0 (v := .func fn (first.map a.eval) (caps.map a.eval)) (by simp [execOp, hop, Instr.makeFunc]) (put_end h hd (.clo (by simp [l1]) (by simp [l2]) (fun j s hs => ?_) fun j s hs => ?_) hg)
  · simpa using getD_map (f := a.eval) l1 h1 j s hs
  · simpa using getD_map (f := a.eval) l2 h2 j s hs

theorem sim_fieldAddr {st : TypeId} {x : Operand} {f : Nat} (hE : EnvOk E) (h : Rel X M a w γ S) (hd : ∀ d, o.dst = some d → X.Dst d) (hop : o.op = .fieldAddr st x f) (hg0 : Gets (rtOp E call o) M us) : Goal E.P X M o a w us := by
  simp only [rtOp, hop] at hg0
  obtain ⟨i, inf, d, z, hT, hg1⟩ := gets_ty hE hg0
  obtain ⟨s, hs, hg⟩ := gets_opd h hg1
  clear hg0 hg1
  split at hg
  · rename_i off ft hf
    obtain ⟨fs, fd, rfl, hfd, ho, hft⟩ := hT.flds hf
    obtain ⟨fi, finf, fd', fz, hF, hg1⟩ := gets_ty hE hg
    obtain ⟨hsz, hg2⟩ := gets_bif hg1
    have hsz' : fi.size ≠ 0 := by have := Nat.le_of_ble_eq_true hsz; omega
    have run : ∀ b p, a.eval x = .pointer (some ⟨b, p, none⟩) → (execOp a.eval o).run E.P w = .ok (.value (.pointer (some ⟨b, p + off, none⟩))) w := fun b p hv => by
      simp [execOp, hop, hv, Instr.fieldAt, hT.runU, hfd, Instr.sureAddr, fieldPlace, hft, hF.runS, hsz', ho, addr_add]
    clear hg hg1
    obtain ⟨_, hg⟩ := live_ptr (f := fun s => match s with
      | .ptr id o' => out o.dst (.ptr id (o' + off)) []
      | .ept id sz j c => out o.dst (.ept id sz j (c + off)) []
      | .fp sz xs j c => out o.dst (.fp sz xs j (c + off)) []
      | _ => .fail) hs hg2
    unfold live at hg2
    split at hg2
    · rename_i id off'
      obtain ⟨e, he, hg3⟩ := gets_rdHead hg2
      split at hg3
      · have hv := hs.ptr_inv he
        exact .value0 (run _ _ hv) (put_end h hd (.ptr he rfl) hg)
      · exact (gets_fail hg3).elim
    · rename_i id sz j c
      obtain ⟨e, he, hg3⟩ := gets_rdHead hg2
      have fin : ∀ s' len, e.row = some (s', len) → Goal E.P X M o a w us := fun s' len hr => by
        obtain ⟨hv, e1, e2, e3⟩ := hs.ept_inv he hr
        have := run _ _ hv
        rw [Nat.add_assoc, Nat.add_assoc] at this
        exact .value0 this (put_end h hd (e1 ▸ .ept he (e1 ▸ hr) e3 e2) hg)
      split at hg3
      · exact fin _ _ rfl
      · exact fin _ _ rfl
      · exact (gets_fail hg3).elim
    · rename_i sz xs j c
      obtain ⟨b, p, hv, h1, h2, h3⟩ := hs.fp_inv
      have := run _ _ hv
      rw [Nat.add_assoc, Nat.add_assoc] at this
      exact .value0 this (put_end h hd (.fp h1 h2 h3) hg)
    · exact (gets_fail hg2).elim
  · exact (gets_fail hg).elim

theorem sim_field {st : TypeId} {x : Operand} {f : Nat} (hE : EnvOk E) (h : Rel X M a w γ S) (hd : ∀ d, o.dst = some d → X.Dst d) (hop : o.op = .field st x f) (hg0 : Gets (rtOp E call o) M us) : Goal E.P X M o a w us := by
  simp only [rtOp, hop] at hg0
  obtain ⟨i, inf, d, z, hT, hg1⟩ := gets_ty hE hg0
  obtain ⟨s, hs, hg⟩ := gets_opd h hg1
  clear hg0 hg1
  split at hg
  · rename_i off ft cs hf
    obtain ⟨fs, fd, rfl, hfd, ho, hft⟩ := hT.flds hf
    obtain ⟨fi, finf, fd', fz, hF, hg1⟩ := gets_ty hE hg
    obtain ⟨hle, hg2⟩ := gets_bif hg1
    have hle' := Nat.le_of_ble_eq_true hle
    obtain ⟨vs, hv, hl, hr⟩ := hs.agg_inv
    clear hg hg1
    cases hfa : fi.agg with
    | true =>
      rw [hfa] at hg2
      refine .value0 (v := .agg (vs.extract off (off + fi.size))) ?_ (put_end h hd (.agg ?_ ?_) hg2)
      · simp [execOp, hop, hv, Instr.field, hT.runU, hfd, part, asAgg, hft, hF.runA, hF.runS, hfa, ho]
      · simp; omega
      · intro j s hj
        rw [List.getElem?_take] at hj
        split at hj
        · rw [List.getElem?_drop] at hj
          have := hr _ _ hj
          have hlt := (List.getElem?_eq_some_iff.1 hj).1
          have hlt' : off + j < vs.size := by omega
          rw [Array.getD_eq_getD_getElem?, Array.getElem?_extract_of_lt (by omega)]
          rwa [Array.getD_eq_getD_getElem?, Array.getElem?_eq_getElem hlt'] at this
        · simp at hj
    | false =>
      rw [hfa] at hg2
      simp only [cond_false] at hg2
      split at hg2
      · rename_i v' hv'
        have hlt := (List.getElem?_eq_some_iff.1 hv').1
        obtain ⟨v0, hq⟩ : ∃ v0, vs[off]? = some v0 := ⟨_, Array.getElem?_eq_getElem (by omega)⟩
        have hr' := hr _ _ hv'
        rw [Array.getD_eq_getD_getElem?, hq, Option.getD_some] at hr'
        refine .value0 (v := v0) ?_ (put_end h hd hr' hg2)
        simp [execOp, hop, hv, Instr.field, hT.runU, hfd, part, asAgg, hft, hF.runA, hfa, ho, hq]
      · exact (gets_fail hg2).elim
  · exact (gets_fail hg).elim

theorem sim_extract {x : Operand} {j : Nat} (h : Rel X M a w γ S) (hd : ∀ d, o.dst = some d → X.Dst d) (hop : o.op = .extract x j) (hg0 : Gets (rtOp E call o) M us) : Goal E.P X M o a w us := by
  simp only [rtOp, hop] at hg0
  obtain ⟨s, hs, hg⟩ := gets_opd h hg0
  clear hg0
  split at hg
  · obtain ⟨vs, hv, hl, hr⟩ := hs.tup_inv
    split at hg
    · rename_i v' hv'
      have hlt := (List.getElem?_eq_some_iff.1 hv').1
      obtain ⟨v0, hq⟩ : ∃ v0, vs[j]? = some v0 := ⟨_, Array.getElem?_eq_getElem (by omega)⟩
      have hr' := hr _ _ hv'
      rw [Array.getD_eq_getD_getElem?, hq, Option.getD_some] at hr'
      exact .value0 (v := v0) (by simp [execOp, hop, hv, Instr.extract, hq]) (put_end h hd hr' hg)
    · exact (gets_fail hg).elim
  · exact (gets_fail hg).elim

theorem ix_some {i : Int} {n j : Nat} (h : ix i n = some j) : 0 ≤ i ∧ i < n ∧ j = i.toNat ∧ j < n := by
  unfold ix at h
  split at h
  · rename_i hh; cases h; exact ⟨hh.1, hh.2, rfl, by omega⟩
  · simp at h

theorem bd_some {i : Int} {n j : Nat} (h : bd i n = some j) : 0 ≤ i ∧ i ≤ n ∧ j = i.toNat ∧ j ≤ n := by
  unfold bd at h
  split at h
  · rename_i hh; cases h; exact ⟨hh.1, hh.2, rfl, by omega⟩
  · simp at h

theorem sim_index {t : TypeId} {x y : Operand} (hE : EnvOk E) (h : Rel X M a w γ S) (hd : ∀ d, o.dst = some d → X.Dst d) (hop : o.op = .index t x y) (hg0 : Gets (rtOp E call o) M us) : Goal E.P X M o a w us := by
  simp only [rtOp, hop] at hg0
  obtain ⟨s, hs, hg1⟩ := gets_opd h hg0
  obtain ⟨r, hr, hg⟩ := gets_opd h hg1
  clear hg0 hg1
  split at hg
  · rename_i s' k n
    have e1 := hs.str_inv
    have e2 := hr.int_inv
    obtain ⟨hu, hg⟩ := gets_isStr hE hg
    obtain ⟨b, hb, hg⟩ := gets_int hg
    unfold strAt at hb
    split at hb
    · rename_i h0
      obtain ⟨q, hq, rfl⟩ := Option.map_eq_some_iff.1 hb
      refine .value0 (v := .int .u8 q.toNat) ?_ (put_end h hd (.fv (.int _ _)) hg)
      simp [execOp, hop, e1, e2, Instr.index, asIntOf, run_underlying hu, h0, hq]
    · simp at hb
  · exact (gets_fail hg).elim

theorem sim_indexAddr {t : TypeId} {x y : Operand} (hE : EnvOk E) (h : Rel X M a w γ S) (hd : ∀ d, o.dst = some d → X.Dst d) (hop : o.op = .indexAddr t x y) (hg0 : Gets (rtOp E call o) M us) : Goal E.P X M o a w us := by
  simp only [rtOp, hop] at hg0
  obtain ⟨el, te, inf, d, z, hu, hT, hg1⟩ := gets_sliceTy hE hg0
  obtain ⟨s, hs, hg2⟩ := gets_opd h hg1
  obtain ⟨r, hr, hg⟩ := gets_opd h hg2
  clear hg0 hg1 hg2
  have run : ∀ (k : IntKind) (n : Int) (b p : Nat) (len cap : Nat), a.eval y = .int k n → a.eval x = .slice (some ⟨b, p, none⟩) len cap → 0 ≤ n → n < len →
      (execOp a.eval o).run E.P w = .ok (.value (.pointer (some ⟨b, p + n.toNat * te.size, none⟩))) w := by
    intro k n b p len cap h1 h2 h3 h4
    simp [execOp, hop, h1, h2, Instr.indexAt, asIntOf, run_underlying hu, h3, h4, hT.runS, addr_add]
  split at hg
  · rename_i k n
    have e2 := hr.int_inv
    split at hg
    · rename_i sz xs
      obtain ⟨hsz, hg1⟩ := gets_bif hg
      have hsz' := Nat.eq_of_beq_eq_true hsz
      obtain ⟨j, hj, hg2⟩ := gets_nat hg1
      obtain ⟨h0, h1, rfl, h3⟩ := ix_some hj
      obtain ⟨aa, cap, b, p, hv, hc, ha, hrow⟩ := FRep.list_iff.1 hs.list_inv
      have hne : xs ≠ [] := by intro hx; simp [hx] at h3
      obtain ⟨rfl, hS⟩ := ha hne
      refine .value0 (run k n b p _ cap e2 hv h0 h1) (put_end h hd ?_ hg2)
      have := SRep.fp (γ := γ) (hd := hdOf M) (c := 0) hS hrow h3
      rw [Nat.add_zero, hsz'] at this
      rw [hsz']; exact this
    · rename_i id view
      obtain ⟨e, he, hg1⟩ := gets_rdHead hg
      have fin : ∀ (sz : Nat) (xs : List FV), e.row = some (sz, xs.length) → Gets (bif Nat.beq sz te.size then ixView n xs.length view fun j => out o.dst (.ept id sz j 0) [] else .fail) M us → (∀ q, (γ id).base = some q → (γ id).nil = false) → Goal E.P X M o a w us := by
        intro sz xs hrow hg hnil
        obtain ⟨hsz, hg1⟩ := gets_bif hg
        have hsz' := Nat.eq_of_beq_eq_true hsz
        subst hsz'
        rcases hs.sl_inv he hrow with ⟨rfl, hv⟩ | ⟨o', m, aa, c, rfl, hv, hom, hc, ha, _⟩
        · obtain ⟨j, hj, hg2⟩ := gets_nat hg1
          obtain ⟨h0, h1, rfl, h3⟩ := ix_some hj
          have hnn : (γ id).nil = false := by
            cases hq : (γ id).nil with
            | false => rfl
            | true =>
              exfalso
              have ho := h.head id e he
              cases e with
              | vec _ ys => simp [ORep, hq] at ho; simp [Ent.row] at hrow; rw [← hrow.2, ho.2.1] at h3; simp at h3
              | frz _ ys => simp [ORep, hq] at ho; simp [Ent.row] at hrow; rw [← hrow.2, ho.2.1] at h3; simp at h3
              | _ => simp [Ent.row] at hrow
          have hb : (γ id).base = some ⟨(γ id).blk, (γ id).off, none⟩ := by simp [Gh.base, hnn]
          rw [hb] at hv
          refine .value0 (run k n _ _ _ _ e2 hv h0 h1) (put_end h hd ?_ hg2)
          exact SRep.ept (c := 0) he hrow hnn h3
        · obtain ⟨j, hj, hg2⟩ := gets_nat hg1
          obtain ⟨h0, h1, rfl, h3⟩ := ix_some hj
          obtain ⟨hnn, rfl⟩ := ha (by omega)
          have := run k n _ _ _ _ e2 hv h0 h1
          refine .value0 this (put_end h hd ?_ hg2)
          have q := SRep.ept (w := w) (S := S) (c := 0) (i := o' + n.toNat) he hrow hnn (by omega)
          rwa [Nat.add_mul, Nat.add_zero, ← Nat.add_assoc] at q
      split at hg1
      · exact fin _ _ rfl hg1 (by intro q hq; unfold Gh.base at hq; split at hq <;> simp_all)
      · exact fin _ _ rfl hg1 (by intro q hq; unfold Gh.base at hq; split at hq <;> simp_all)
      · exact (gets_fail hg1).elim
    · exact (gets_fail hg).elim
  · exact (gets_fail hg).elim

end
end Rf
