/- Calls of append, len, min, max; a struct that is built. -/
import Derived.Test.YtebaohjeodeaoaaGreatDoorRf14
namespace Rf
open Go

section
variable {E : Env} {call : FuncId → List FV → Res} {X : Cx} {M : Mem} {a : Act} {w : World} {γ : Nat → Gh} {S : Nat → Prop} {us : List (Key × Ent)} {o : Oper}

/-- a call of a builtin, carried out -/
theorem exec_builtin {P : Program} {b : Builtin} {args : Array Operand} {ats : Array TypeId} (hop : o.op = .call { callee := .builtin b, args := args, argTypes := ats }) :
    (execOp a.eval o).run P w = (builtin b ats o.type (args.map fun | .const _ => true | _ => false) (args.map a.eval)).run P w := by
  simp [execOp, hop, resolve, invoke]
  rfl

theorem opds_args {args : Array Operand} {vs : List SV} (hl : vs.length = args.toList.length) (hv : ∀ (j : Nat) (x : Operand), args.toList[j]? = some x → ∃ s, vs[j]? = some s ∧ SRep w S γ (hdOf M) s (a.eval x)) {n : Nat} (hn : vs.length = n) :
    (args.map a.eval).toList.length = n ∧ ∀ (j : Nat) (s : SV), vs[j]? = some s → ∃ v, (args.map a.eval).toList[j]? = some v ∧ SRep w S γ (hdOf M) s v := by
  refine ⟨by simp at hl ⊢; omega, fun j s hs => ?_⟩
  have hj : j < args.toList.length := by rw [← hl]; exact (List.getElem?_eq_some_iff.1 hs).1
  obtain ⟨s', h1, h2⟩ := hv j args.toList[j] (List.getElem?_eq_getElem hj)
  rw [hs] at h1; cases h1
  exact ⟨_, by simp only [Array.toList_map, List.getElem?_map, List.getElem?_eq_getElem hj, Option.map_some], h2⟩

theorem args1 {args : Array Operand} {s : SV} (h : (args.map a.eval).toList.length = 1 ∧ ∀ (j : Nat) (t : SV), [s][j]? = some t → ∃ v, (args.map a.eval).toList[j]? = some v ∧ SRep w S γ (hdOf M) t v) :
    ∃ v, args.map a.eval = #[v] ∧ SRep w S γ (hdOf M) s v := by
  obtain ⟨v, h1, h2⟩ := h.2 0 s rfl
  refine ⟨v, ?_, h2⟩
  have h3 := h.1
  apply Array.ext'
  generalize (args.map a.eval).toList = l at *
  match l, h3 with
  | [x], _ => simp at h1; subst h1; rfl

theorem args2 {args : Array Operand} {s t : SV} (h : (args.map a.eval).toList.length = 2 ∧ ∀ (j : Nat) (u : SV), [s, t][j]? = some u → ∃ v, (args.map a.eval).toList[j]? = some v ∧ SRep w S γ (hdOf M) u v) :
    ∃ v u, args.map a.eval = #[v, u] ∧ SRep w S γ (hdOf M) s v ∧ SRep w S γ (hdOf M) t u := by
  obtain ⟨v, h1, h2⟩ := h.2 0 s rfl
  obtain ⟨u, h4, h5⟩ := h.2 1 t rfl
  refine ⟨v, u, ?_, h2, h5⟩
  have h3 := h.1
  apply Array.ext'
  generalize (args.map a.eval).toList = l at *
  match l, h3 with
  | [x, y], _ => simp at h1 h4; subst h1; subst h4; rfl

theorem ats_of1 {ats : Array TypeId} {t : TypeId} (h : ats.toList = [t]) : ats = #[t] := by
  apply Array.ext'; rw [h]
theorem ats_of2 {ats : Array TypeId} {t u : TypeId} (h : ats.toList = [t, u]) : ats = #[t, u] := by
  apply Array.ext'; rw [h]

theorem sim_builtin {b : Builtin} {args : Array Operand} {ats : Array TypeId} (hE : EnvOk E) (h : Rel X M a w γ S) (hd : ∀ d, o.dst = some d → X.Dst d) (hop : o.op = .call { callee := .builtin b, args := args, argTypes := ats }) (hg0 : Gets (rtOp E call o) M us) :
    Goal E.P X M o a w us := by
  simp only [rtOp, hop] at hg0
  obtain ⟨vs, hl, hv, hg⟩ := gets_opds h hg0
  clear hg0
  have hex := exec_builtin (w := w) (P := E.P) (a := a) hop
  unfold builtinOp at hg
  split at hg
  · -- len
    rename_i s
    obtain ⟨v, hargs, hs⟩ := args1 (opds_args hl hv (n := 1) rfl)
    split at hg
    · rename_i t hats
      have hats' := ats_of1 hats
      have run : ∀ n : Nat, (Builtin.len_ #[t] o.type #[v]).run E.P w = .ok (goInt n) w → (execOp a.eval o).run E.P w = .ok (.value (.int .i64 n)) w := fun n hn => by
        rw [hex, hargs, hats']
        simp only [builtin]
        simp [hn, goInt]
      split at hg
      · rename_i str
        obtain ⟨hu, hg⟩ := gets_isStr hE hg
        have e := hs.str_inv
        exact .value0 (run str.size (by rw [e]; simp [Builtin.len_, run_underlying hu])) (put_end h hd (.fv (.int _ _)) hg)
      · rename_i sz xs
        obtain ⟨el, te, inf, dd, z, hu, hT, hg⟩ := gets_sliceTy hE hg
        obtain ⟨aa, cap, b', p, e, _⟩ := FRep.list_iff.1 hs.list_inv
        exact .value0 (run xs.length (by rw [e]; simp [Builtin.len_, run_underlying hu])) (put_end h hd (.fv (.int _ _)) hg)
      · obtain ⟨el, te, inf, dd, z, hu, hT, hg⟩ := gets_sliceTy hE hg
        have e := hs.nilS_inv
        exact .value0 (run 0 (by rw [e]; simp [Builtin.len_, run_underlying hu])) (put_end h hd (.fv (.int _ _)) hg)
      · rename_i id view
        obtain ⟨el, te, inf, dd, z, hu, hT, hg⟩ := gets_sliceTy hE hg
        obtain ⟨e, he, hg⟩ := gets_rdHead hg
        have go : ∀ (s0 : Nat) (xs : List FV), e.row = some (s0, xs.length) → Gets (match (generalizing := false) view with | none => out o.dst (.fv (.int .i64 xs.length)) [] | some (_, n) => out o.dst (.fv (.int .i64 n)) []) M us → Goal E.P X M o a w us := by
          clear hg
          intro s0 xs hrow hgA
          rcases hs.sl_inv he hrow with ⟨rfl, e⟩ | ⟨o', n, aa, c, rfl, e, _⟩
          · exact .value0 (run xs.length (by rw [e]; simp [Builtin.len_, run_underlying hu])) (put_end h hd (.fv (.int _ _)) hgA)
          · exact .value0 (run n (by rw [e]; simp [Builtin.len_, run_underlying hu])) (put_end h hd (.fv (.int _ _)) hgA)
        split at hg
        · exact go _ _ rfl hg
        · exact go _ _ rfl hg
        · exact (gets_fail hg).elim
      · rename_i id0 _
        obtain ⟨id, kt, et, ki, ei, inf, dd, z, hid, e, he, hu, hc, hT, hg⟩ := gets_theMap hE hs hg
        obtain ⟨es, clk, c0, hg⟩ := gets_rdMap hg
        obtain ⟨es1, clk1, es', clk', d0, _, _, arr, c, hbk, _, _, _, hall⟩ := mapH_rep h he
        rw [c0] at d0; cases d0
        have hlen : es.length = arr.size := by have := hall.len; simpa using this
        exact .value0 (run es.length (by rw [e, hlen]; exact run_len_map hu hbk _)) (put_end h hd (.fv (.int _ _)) hg)
      · exact (gets_fail hg).elim
    · exact (gets_fail hg).elim
  · -- delete
    rename_i s x
    obtain ⟨v, u, hargs, hs, hx⟩ := args2 (opds_args hl hv (n := 2) rfl)
    split at hg
    · rename_i t r hats
      exact map_delete hE h hd hs hx hats hg fun w' hw => by
        rw [hex, hargs]
        simp only [builtin]
        simp [hw]
    · exact (gets_fail hg).elim
  · -- append
    rename_i s x
    obtain ⟨v, u, hargs, hs, hx⟩ := args2 (opds_args hl hv (n := 2) rfl)
    split at hg
    · rename_i t t' d hats hdst
      obtain ⟨ht, hg1⟩ := gets_bif hg
      have ht' := Nat.eq_of_beq_eq_true ht
      subst ht'
      obtain ⟨el, te, inf, dd, z, hu, hT, hg2⟩ := gets_sliceTy hE hg1
      obtain ⟨hb, hg3⟩ := gets_bif hg2
      simp only [Bool.and_eq_true] at hb
      have hby := Nat.le_of_ble_eq_true hb.1.2
      have hsz := Nat.le_of_ble_eq_true hb.2
      obtain ⟨ys, aa, c, b', p, hxv, hcap, haa, hrow, hg4⟩ := gets_seq h hx hg3
      clear hg hg1 hg2 hg3
      have hats' := ats_of2 hats
      have fin : ∀ {us' : List (Key × Ent)} {v' : Value} {w' : World} {γ' : Nat → Gh}, (Builtin.append_ #[t, t] o.type #[v, u]).run E.P w = .ok v' w' → Rel X (us' ++ M) (a.put (some d) v') w' γ' S → us = us' → Goal E.P X M o a w us := by
        intro us' v' w' γ' h1 h2 h3
        subst h3
        refine .value (v := v') ?_ (by rw [hdst]; exact h2)
        rw [hex, hargs, hats']
        simp only [builtin]
        simp [h1]
      have lim : ∀ n, Nat.ble n (140737488355328 / te.bytes) = true → n * te.bytes ≤ 140737488355328 := fun n hn => by
        have := Nat.le_of_ble_eq_true hn
        exact Nat.le_trans (Nat.mul_le_mul_right _ this) (Nat.div_mul_le_self _ _)
      split at hg4
      · have e := hs.nilS_inv
        rcases gets_cnd hg4 with ⟨hlim, hg5⟩ | ⟨_, hg5⟩
        · obtain ⟨hf, hg6⟩ := gets_fresh hg5
          obtain ⟨v', w', γ', h1, h2⟩ := append_core hu hT h (hd d hdst) hf hsz hby (g := ⟨0, 0, 0, true⟩) (olds := []) (.inl ⟨rfl, rfl, rfl⟩) (Nat.le_refl _) (aa := aa) (c := c) haa hrow (by simpa using lim _ hlim) o.type
          refine fin (v' := v') (w' := w') (γ' := γ') ?_ h2 (gets_ret hg6)
          rw [e, hxv]; simpa [Gh.base] using h1
        · exact (gets_fail hg5).elim
      · rename_i id view
        obtain ⟨e, he, hg5⟩ := gets_rdHead hg4
        split at hg5
        · rename_i sz xs
          obtain ⟨hq, hg6⟩ := gets_bif hg5
          have hq' := Nat.eq_of_beq_eq_true hq
          subst hq'
          -- what was there is given up
          have step : ∀ n, n ≤ xs.length → v = .slice (γ id).base n (γ id).cap → hdOf M d = none → n * te.bytes + ys.length * te.bytes ≤ 140737488355328 →
              ∃ v' w' γ', (Builtin.append_ #[t, t] o.type #[v, u]).run E.P w = .ok v' w' ∧ Rel X ((.slot d, .sv (.sl d none)) :: (.head d, .vec te.size (xs.take n ++ ys)) :: (.head id, .tomb) :: M) (a.put (some d) v') w' γ' S := by
            intro n hn hv' hf hlim
            have hne : d ≠ id := fun q => by rw [q, he] at hf; cases hf
            have hM : SameBut id M ((.head id, .tomb) :: M) :=
              ⟨fun i hi => by rw [hdOf, hdOf, Mem.get_cons, if_neg (by simpa using hi)], fun i j hi => by rw [Mem.get_cons, if_neg (by simp)], fun t => by rw [Mem.get_cons, if_neg (by simp)]⟩
            have hR := h.lose hM (by rw [hdOf, Mem.get_cons, if_pos rfl])
            have hf' : hdOf ((.head id, .tomb) :: M) d = none := by rw [hM.1 d hne]; exact hf
            have ho := h.head id _ he
            have hlen : (xs.take n).length = n := by simp; omega
            obtain ⟨v', w', γ', h1, h2⟩ := append_core hu hT hR (hd d hdst) hf' hsz hby (g := γ id) (olds := xs.take n) (by
              by_cases hn' : (γ id).nil = true
              · have := ho.2; rw [if_pos hn'] at this
                exact .inl ⟨hn', by rw [this.1]; simp, this.2⟩
              · have hnf : (γ id).nil = false := by simpa using hn'
                have := ho.2; rw [if_neg hn'] at this
                obtain ⟨vals, te', hb1, hb2, hb3⟩ := this
                have own := h.own id _ he hnf
                refine .inr ⟨hnf, ⟨vals, te', hb1, hb2⟩, ?_, own.2.1, fun i e' h3 h4 h5 => ?_, own.2.2⟩
                · have := hb3.sub 0 n; simpa using this
                · by_cases hi : i = id
                  · subst hi; rw [hdOf, Mem.get_cons, if_pos rfl] at h3; cases h3; exact h4.elim
                  · rw [hM.1 i hi] at h3; exact hi (h.inj i e' id _ h3 he h4 hnf h5)) (by rw [hlen]; have := ho.1; omega) (aa := aa) (c := c) haa hrow (by rw [hlen, Nat.add_mul]; exact hlim) o.type
            refine ⟨v', w', γ', ?_, h2⟩
            rw [hv', hxv]; rw [hlen] at h1; exact h1
          split at hg6
          · rcases gets_cnd hg6 with ⟨hlim, hg7⟩ | ⟨_, hg7⟩
            · obtain ⟨hf, hg8⟩ := gets_fresh hg7
              have hv' : v = .slice (γ id).base xs.length (γ id).cap := by
                rcases hs.sl_inv he rfl with ⟨_, q⟩ | ⟨_, _, _, _, q, _⟩
                · exact q
                · cases q
              obtain ⟨v', w', γ', h1, h2⟩ := step xs.length (Nat.le_refl _) hv' hf (by rw [← Nat.add_mul]; exact lim _ hlim)
              rw [List.take_length] at h2
              exact fin h1 h2 (gets_ret hg8)
            · exact (gets_fail hg7).elim
          · rename_i n
            rcases gets_cnd hg6 with ⟨hlim, hg7⟩ | ⟨_, hg7⟩
            · obtain ⟨hf, hg8⟩ := gets_fresh hg7
              rcases hs.sl_inv he rfl with ⟨q, _⟩ | ⟨o', n', aa', c', q, hv', h3, _, _, h6⟩
              · cases q
              · cases q
                obtain ⟨rfl, rfl⟩ := h6 rfl
                obtain ⟨v', w', γ', h1, h2⟩ := step n (by omega) hv' hf (by rw [← Nat.add_mul]; exact lim _ hlim)
                exact fin h1 h2 (gets_ret hg8)
            · exact (gets_fail hg7).elim
          · exact (gets_fail hg6).elim
        · exact (gets_fail hg5).elim
      · exact (gets_fail hg4).elim
    · exact (gets_fail hg).elim
  · -- min
    rename_i k m k' n
    obtain ⟨v, u, hargs, hs, hx⟩ := args2 (opds_args hl hv (n := 2) rfl)
    refine .value0 (v := .int k (if n < m then n else m)) ?_ (put_end h hd (.fv (.int _ _)) hg)
    rw [hex, hargs, hs.int_inv, hx.int_inv]
    simp [builtin, Builtin.min_, Builtin.min2]
  · -- max
    rename_i k m k' n
    obtain ⟨v, u, hargs, hs, hx⟩ := args2 (opds_args hl hv (n := 2) rfl)
    refine .value0 (v := .int k (if m < n then n else m)) ?_ (put_end h hd (.fv (.int _ _)) hg)
    rw [hex, hargs, hs.int_inv, hx.int_inv]
    simp [builtin, Builtin.max_, Builtin.max2]
  · exact (gets_fail hg).elim

end
end Rf
