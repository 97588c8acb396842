/- Slices of what is there, lengths, and loads. -/
import Derived.Test.YtebaohjeodeaoaaGreatDoorRf6
namespace Rf
open Go

theorem Row.sub {w : World} {S : Nat → Prop} {b o sz : Nat} {xs : List FV} (h : Row w S b o sz xs) (l n : Nat) : Row w S b (o + l * sz) sz ((xs.take n).drop l) := by
  refine ⟨fun x hx => h.1 x (List.mem_of_mem_take (List.mem_of_mem_drop hx)), fun i j x c h1 h2 => ?_⟩
  rw [List.getElem?_drop, List.getElem?_take] at h1
  split at h1
  · obtain ⟨v, h3, h4⟩ := h.2 (l + i) j x c h1 h2
    exact ⟨v, by rw [show o + l * sz + (i * sz + j) = o + ((l + i) * sz + j) by rw [Nat.add_mul]; omega]; exact h3, h4⟩
  · simp at h1

section
variable {E : Env} {call : FuncId → List FV → Res} {X : Cx} {M : Mem} {a : Act} {w : World} {γ : Nat → Gh} {S : Nat → Prop} {us : List (Key × Ent)} {o : Oper}

/-- a bound as a value -/
def BV (x : Option Int) (v : Option Value) : Prop := (x = none ∧ v = none) ∨ ∃ k n, x = some n ∧ v = some (.int k n)

theorem run_sliceBound {P : Program} {k : IntKind} {n : Int} {y : Nat} {j : Nat} {code : BoundsCode} (h : 0 ≤ n ∧ n ≤ y ∧ j = n.toNat) (w : World) : (Instr.sliceBound (.int k n) y code).run P w = .ok j w := by
  simp [Instr.sliceBound, asIntOf, h.1, h.2.1, h.2.2]

theorem gets_slB {len : Nat} {lo hi : Option Int} {g : Nat → Nat → RT} (hg : Gets (slB len lo hi g) M us) {lov hiv : Option Value} (hl : BV lo lov) (hh : BV hi hiv) :
    ∃ l h, l ≤ h ∧ h ≤ len ∧ Gets (g l h) M us ∧ ∀ (P : Program) (w : World) (b : Bool) (cap : Nat), len ≤ cap → (Instr.sliceBounds b len cap lov hiv none).run P w = .ok (l, h, cap) w := by
  unfold slB at hg
  have low : ∀ h, h ≤ len → Gets (slLo h lo g) M us → ∃ l, l ≤ h ∧ Gets (g l h) M us ∧ ((lov = none ∧ l = 0) ∨ ∃ k n, lov = some (.int k n) ∧ 0 ≤ n ∧ n ≤ h ∧ l = n.toNat) := by
    intro h hle hg
    unfold slLo at hg
    rcases hl with ⟨rfl, rfl⟩ | ⟨k, n, rfl, rfl⟩
    · exact ⟨0, Nat.zero_le _, hg, .inl ⟨rfl, rfl⟩⟩
    · obtain ⟨l, h1, hg⟩ := gets_nat hg
      obtain ⟨q1, q2, q3, q4⟩ := bd_some h1
      exact ⟨l, q4, hg, .inr ⟨k, n, rfl, q1, q2, q3⟩⟩
  rcases hh with ⟨rfl, rfl⟩ | ⟨k, n, rfl, rfl⟩
  · obtain ⟨l, h1, h2, h3⟩ := low len (Nat.le_refl _) hg
    refine ⟨l, len, h1, Nat.le_refl _, h2, fun P w b cap hc => ?_⟩
    rcases h3 with ⟨rfl, rfl⟩ | ⟨k', n', rfl, r1, r2, r3⟩
    · simp [Instr.sliceBounds]
    · simp [Instr.sliceBounds, run_sliceBound (P := P) (k := k') ⟨r1, r2, r3⟩]
  · obtain ⟨h, h0, hg⟩ := gets_nat hg
    obtain ⟨q1, q2, q3, q4⟩ := bd_some h0
    obtain ⟨l, h1, h2, h3⟩ := low h q4 hg
    refine ⟨l, h, h1, q4, h2, fun P w b cap hc => ?_⟩
    have hb := fun (code : BoundsCode) (w : World) => run_sliceBound (P := P) (k := k) (n := n) (y := cap) (j := h) (code := code) ⟨q1, by omega, q3⟩ w
    rcases h3 with ⟨rfl, rfl⟩ | ⟨k', n', rfl, r1, r2, r3⟩
    · simp [Instr.sliceBounds, hb]
    · simp [Instr.sliceBounds, hb, run_sliceBound (P := P) (k := k') ⟨r1, r2, r3⟩]

theorem gets_opdO (h : Rel X M a w γ S) {x : Option Operand} {f : Option SV → RT} (hg : Gets (opdO x f) M us) :
    (x = none ∧ Gets (f none) M us) ∨ ∃ y s, x = some y ∧ SRep w S γ (hdOf M) s (a.eval y) ∧ Gets (f (some s)) M us := by
  unfold opdO at hg
  split at hg
  · exact .inl ⟨rfl, hg⟩
  · obtain ⟨s, hs, hg⟩ := gets_opd h hg
    exact .inr ⟨_, s, rfl, hs, hg⟩

theorem gets_intArg {x : Option Operand} {s : Option SV} {f : Option Int → RT} (hx : (x = none ∧ s = none) ∨ ∃ y t, x = some y ∧ s = some t ∧ SRep w S γ (hdOf M) t (a.eval y)) (hg : Gets (intArg s f) M us) :
    ∃ n, BV n (x.map a.eval) ∧ Gets (f n) M us := by
  unfold intArg at hg
  rcases hx with ⟨rfl, rfl⟩ | ⟨y, t, rfl, rfl, ht⟩
  · exact ⟨none, .inl ⟨rfl, rfl⟩, hg⟩
  · cases t with
    | fv q =>
      cases q with
      | int k n => exact ⟨some n, .inr ⟨k, n, rfl, by simp [ht.int_inv]⟩, hg⟩
      | _ => exact (gets_fail hg).elim
    | _ => exact (gets_fail hg).elim

theorem nil_len {e : Ent} {id sz len : Nat} (h : Rel X M a w γ S) (he : hdOf M id = some e) (hr : e.row = some (sz, len)) (hl : 0 < len) : (γ id).nil = false := by
  cases hq : (γ id).nil with
  | false => rfl
  | true =>
    exfalso
    have ho := h.head id e he
    cases e with
    | vec _ ys => simp [ORep, hq] at ho; simp [Ent.row] at hr; rw [← hr.2, ho.2.1] at hl; simp at hl
    | frz _ ys => simp [ORep, hq] at ho; simp [Ent.row] at hr; rw [← hr.2, ho.2.1] at hl; simp at hl
    | _ => simp [Ent.row] at hr

theorem len_cap {e : Ent} {id sz len : Nat} (h : Rel X M a w γ S) (he : hdOf M id = some e) (hr : e.row = some (sz, len)) : len ≤ (γ id).cap := by
  have ho := h.head id e he
  cases e with
  | vec _ ys => simp [Ent.row] at hr; rw [← hr.2]; exact ho.1
  | frz _ ys => simp [Ent.row] at hr; rw [← hr.2]; exact ho.1
  | _ => simp [Ent.row] at hr

theorem sliceAt_slice {P : Program} {t el : TypeId} (hu : P.underlying t = some (.slice el)) (x : Value) (lo hi mx : Option Value) (w : World) : (Instr.sliceAt t x lo hi mx).run P w = (Instr.slice t x lo hi mx).run P w := by
  simp [Instr.sliceAt, run_underlying hu]
theorem sliceAt_str {P : Program} {t : TypeId} (hu : P.underlying t = some .string) (x : Value) (lo hi mx : Option Value) (w : World) : (Instr.sliceAt t x lo hi mx).run P w = (Instr.slice t x lo hi mx).run P w := by
  simp [Instr.sliceAt, run_underlying hu]

theorem sim_slice {t : TypeId} {x : Operand} {lo hi mx : Option Operand} (hE : EnvOk E) (h : Rel X M a w γ S) (hd : ∀ d, o.dst = some d → X.Dst d) (hop : o.op = .slice t x lo hi mx) (hg0 : Gets (rtOp E call o) M us) : Goal E.P X M o a w us := by
  simp only [rtOp, hop] at hg0
  obtain ⟨s, hs, hg1⟩ := gets_opd h hg0
  clear hg0
  rcases gets_opdO h hg1 with hlo | hlo
  all_goals
    clear hg1
    first
      | obtain ⟨rfl, hg2⟩ := hlo
        have hlo' : (none : Option Operand) = none ∧ (none : Option SV) = none ∨ ∃ y t, (none : Option Operand) = some y ∧ (none : Option SV) = some t ∧ SRep w S γ (hdOf M) t (a.eval y) := .inl ⟨rfl, rfl⟩
      | obtain ⟨y1, s1, rfl, hs1, hg2⟩ := hlo
        have hlo' : (some y1 : Option Operand) = none ∧ (some s1 : Option SV) = none ∨ ∃ y t, (some y1 : Option Operand) = some y ∧ (some s1 : Option SV) = some t ∧ SRep w S γ (hdOf M) t (a.eval y) := .inr ⟨_, _, rfl, rfl, hs1⟩
    rcases gets_opdO h hg2 with hhi | hhi
    all_goals
      clear hg2
      first
        | obtain ⟨rfl, hg3⟩ := hhi
          have hhi' : (none : Option Operand) = none ∧ (none : Option SV) = none ∨ ∃ y t, (none : Option Operand) = some y ∧ (none : Option SV) = some t ∧ SRep w S γ (hdOf M) t (a.eval y) := .inl ⟨rfl, rfl⟩
        | obtain ⟨y2, s2, rfl, hs2, hg3⟩ := hhi
          have hhi' : (some y2 : Option Operand) = none ∧ (some s2 : Option SV) = none ∨ ∃ y t, (some y2 : Option Operand) = some y ∧ (some s2 : Option SV) = some t ∧ SRep w S γ (hdOf M) t (a.eval y) := .inr ⟨_, _, rfl, rfl, hs2⟩
      rcases gets_opdO h hg3 with ⟨rfl, hg4⟩ | ⟨_, _, _, _, hg4⟩
      · clear hg3
        dsimp only at hg4
        obtain ⟨l, hl, hg5⟩ := gets_intArg hlo' hg4
        obtain ⟨u, hu, hg6⟩ := gets_intArg hhi' hg5
        clear hg4 hg5
        exact sliceFin hE h hd hop hs hl hu hg6
      · exact (gets_fail hg4).elim
where
  sliceFin {t : TypeId} {x : Operand} {lo hi : Option Operand} (hE : EnvOk E) (h : Rel X M a w γ S) (hd : ∀ d, o.dst = some d → X.Dst d) (hop : o.op = .slice t x lo hi none) {s : SV} (hs : SRep w S γ (hdOf M) s (a.eval x))
      {l u : Option Int} (hl : BV l (lo.map a.eval)) (hu : BV u (hi.map a.eval)) (hg : Gets (sliceOp E t s l u fun v => out o.dst v []) M us) : Goal E.P X M o a w us := by
    have run : ∀ v, (Instr.sliceAt t (a.eval x) (lo.map a.eval) (hi.map a.eval) none).run E.P w = .ok v w → (execOp a.eval o).run E.P w = .ok (.value v) w := fun v hv => by
      simp [execOp, hop, hv]
    unfold sliceOp at hg
    split at hg
    · rename_i str
      have e := hs.str_inv
      obtain ⟨ht, hg⟩ := gets_isStr hE hg
      obtain ⟨p, q, h1, h2, hg, hb⟩ := gets_slB hg hl hu
      refine .value0 (v := .string (str.extract p q)) (run _ ?_) (put_end h hd (.fv (.str _)) hg)
      rw [sliceAt_str ht, e]
      simp [Instr.slice, run_underlying ht, hb E.P w false str.size (Nat.le_refl _)]
    · rename_i sz xs
      obtain ⟨el, te, inf, d, z, ht, hT, hg⟩ := gets_sliceTy hE hg
      obtain ⟨hsz, hg⟩ := gets_bif hg
      have hsz' := Nat.eq_of_beq_eq_true hsz
      obtain ⟨p, q, h1, h2, hg, hb⟩ := gets_slB hg hl hu
      obtain ⟨aa, cap, b, o', hv, hc, ha, hrow⟩ := FRep.list_iff.1 hs.list_inv
      have hlen : ((xs.take q).drop p).length = q - p := by simp; omega
      refine .value0 (v := .slice (if cap = p then aa else aa.map (·.add (p * te.size))) (q - p) (cap - p)) (run _ ?_) (put_end h hd (.fv (FRep.list_iff.2 ⟨_, _, b, o' + p * sz, by rw [hlen], by rw [hlen]; omega, fun hne => ?_, hrow.sub p q⟩)) hg)
      · rw [sliceAt_slice ht, hv]
        simp [Instr.slice, run_underlying ht, hb E.P w true cap hc, hT.runS]
      · have : q - p ≠ 0 := by intro h0; exact hne (List.eq_nil_of_length_eq_zero (by rw [hlen]; exact h0))
        obtain ⟨rfl, hS⟩ := ha (by rintro rfl; simp at h2; omega)
        rw [if_neg (by omega)]
        exact ⟨by simp [addr_add, hsz'], hS⟩
    · obtain ⟨el, te, inf, d, z, ht, hT, hg⟩ := gets_sliceTy hE hg
      obtain ⟨p, q, h1, h2, hg, hb⟩ := gets_slB hg hl hu
      have e := hs.nilS_inv
      obtain rfl : p = 0 := by omega
      obtain rfl : q = 0 := by omega
      refine .value0 (v := .slice none 0 0) (run _ ?_) (put_end h hd .nilS hg)
      rw [sliceAt_slice ht, e]
      simp [Instr.slice, run_underlying ht, hb E.P w true 0 (Nat.le_refl _), hT.runS]
    · rename_i id view
      obtain ⟨el, te, inf, d, z, ht, hT, hg⟩ := gets_sliceTy hE hg
      obtain ⟨e, he, hg⟩ := gets_rdHead hg
      split at hg
      · rename_i sz len hrow
        obtain ⟨hsz, hg⟩ := gets_bif hg
        have hsz' := Nat.eq_of_beq_eq_true hsz
        obtain ⟨p, q, h1, h2, hg, hb⟩ := gets_slB hg hl hu
        have hcap := len_cap h he hrow
        rcases hs.sl_inv he hrow with ⟨rfl, hv⟩ | ⟨o', m, aa, c, rfl, hv, hom, hc, ha, h0⟩
        · simp only [viewOf] at h2 hb hg
          refine .value0 (v := .slice (if (γ id).cap = p then (γ id).base else (γ id).base.map (·.add (p * te.size))) (q - p) ((γ id).cap - p)) (run _ ?_) (put_end h hd (.view he hrow (by omega) (by omega) (fun hne => ?_) fun h0 => ?_) hg)
          · rw [sliceAt_slice ht, hv]
            simp [Instr.slice, run_underlying ht, hb E.P w true _ hcap, hT.runS]
          · have hn := nil_len h he hrow (by omega)
            rw [if_neg (by omega)]
            exact ⟨hn, by simp [Gh.base, hn, addr_add, hsz']⟩
          · have : p = 0 := by omega
            subst this
            refine ⟨?_, by simp⟩
            split
            · rfl
            · cases (γ id).base <;> simp [Addr.add]
        · simp only [viewOf] at h2 hb hg
          refine .value0 (v := .slice (if c = p then aa else aa.map (·.add (p * te.size))) (q - p) (c - p)) (run _ ?_) (put_end h hd (.view he hrow (by omega) (by omega) (fun hne => ?_) fun h0' => ?_) hg)
          · rw [sliceAt_slice ht, hv]
            simp [Instr.slice, run_underlying ht, hb E.P w true _ hc, hT.runS]
          · obtain ⟨hn, rfl⟩ := ha (by omega)
            rw [if_neg (by omega)]
            refine ⟨hn, ?_⟩
            simp only [Option.map_some, addr_add, hsz', Nat.add_mul, Nat.add_assoc]
          · have hp : p = 0 := by omega
            have ho : o' = 0 := by omega
            subst hp
            obtain ⟨rfl, rfl⟩ := h0 ho
            refine ⟨?_, by simp⟩
            split
            · rfl
            · cases (γ id).base <;> simp [Addr.add]
      · exact (gets_fail hg).elim
    · exact (gets_fail hg).elim

end
end Rf
