/- Any operation; what an operation reads decides it; a row of operations, one by one. -/
import Derived.Test.YtebaohjeodeaoaaGreatDoorRf21
namespace Rf
open Go

theorem notElem_spec {d : Nat} : ∀ {l : List Nat}, notElem d l = true → d ∉ l
  | [], _ => by simp
  | x :: r, h => by
    simp only [notElem, Bool.and_eq_true, Bool.not_eq_true'] at h
    have h1 : x ≠ d := fun e => by subst e; simp at h
    simpa [Ne.symm h1] using notElem_spec h.2

section
variable {E : Env} {call : FuncId → List FV → Res} {X : Cx} {M : Mem} {a : Act} {w : World} {γ : Nat → Gh} {S : Nat → Prop} {us : List (Key × Ent)} {o : Oper}

theorem sim_op (hE : EnvOk E) (hC : CallOk E call) (h : Rel X M a w γ S) {nt : Nat} {pins : List Nat} (hnt : nt ≤ X.nt) (hpin : ∀ d, d ∉ pins → X.pin d = none) (ho : opOk nt pins o = true) (hg : Gets (rtOp E call o) M us) : Goal E.P X M o a w us := by
  have hd : ∀ d, o.dst = some d → X.Dst d := fun d hd => by
    simp only [opOk, hd, Bool.and_eq_true] at ho
    exact ⟨Nat.lt_of_lt_of_le (Nat.le_of_ble_eq_true ho.1.1) hnt, hpin d (notElem_spec ho.1.2)⟩
  cases hop : o.op with
  | move x => exact sim_move h hd (.inl hop) (by simpa only [rtOp, hop] using hg)
  | assign x => exact sim_move h hd (.inr hop) (by simpa only [rtOp, hop] using hg)
  | pick c x y => exact sim_pick h hd hop hg
  | alloc t => exact sim_alloc hE h hd hop hg
  | box t x => exact sim_box hE h hd hop hg
  | build t ps => exact sim_build hE h hd hop hg
  | buildSlice t n ps => exact sim_buildSlice hE h hd hop hg
  | load t x => exact sim_load hE h hd hop hg
  | store t x y =>
    refine sim_store hE h hop ?_ hg
    simp only [opOk, hop, Bool.and_eq_true] at ho
    cases hd' : o.dst with
    | none => rfl
    | some d => rw [hd'] at ho; simp at ho
  | nilCheck x => exact sim_nilCheck h hd hop hg
  | binOp op t x y t' => exact sim_binOp hE h hd hop hg
  | unOp op t x => exact sim_unOp h hd hop hg
  | convert s d x => exact sim_convert hE h hd hop hg
  | makeFunc fn f c => exact sim_makeFunc h hd hop hg
  | makeSlice t x y => exact sim_makeSlice hE h hd hop hg
  | slice t x l hi m => exact sim_slice hE h hd hop hg
  | fieldAddr t x f => exact sim_fieldAddr hE h hd hop hg
  | field t x f => exact sim_field hE h hd hop hg
  | indexAddr t x y => exact sim_indexAddr hE h hd hop hg
  | index t x y => exact sim_index hE h hd hop hg
  | extract x j => exact sim_extract h hd hop hg
  | makeMap t r =>
    cases r with
    | none => exact sim_makeMap hE h hd hop hg
    | some _ => simp only [rtOp, hop] at hg; exact (gets_fail hg).elim
  | lookup t x y ok => exact sim_lookup hE h hd hop hg
  | mapUpdate t x y z => exact sim_mapUpdate hE h (.inl hop) hg
  | insert t x y z => exact sim_mapUpdate hE h (.inr hop) hg
  | mapEntry t x y => exact sim_mapEntry hE h hd hop hg
  | entryStore t x y z => exact sim_entryStore hE h hop hg
  | call c =>
    obtain ⟨cl, args, ats⟩ := c
    cases cl with
    | value fx => exact sim_call hC h hd hop hg
    | builtin b => exact sim_builtin hE h hd hop hg
    | invoke r m => simp only [rtOp, hop] at hg; exact (gets_fail hg).elim
  | _ => simp only [rtOp, hop] at hg; exact (gets_fail hg).elim

/-! ### what is read decides -/

theorem get_near {M M' : Mem} : ∀ {t : RT} {us : List (Key × Ent)} {lg : List Key}, t.get M = some (us, lg) → (∀ k, k ∈ lg → Mem.get k M' = Mem.get k M) → t.get M' = some (us, lg) := by
  intro t
  induction t with
  | ret us0 => intro us lg h _; simpa [RT.get] using h
  | fail => intro us lg h _; simp [RT.get] at h
  | rd k f ih =>
    intro us lg h hk
    simp only [RT.get] at h ⊢
    cases he : Mem.get k M with
    | none => simp [he] at h
    | some e =>
      simp only [he] at h
      cases hf : (f e).get M with
      | none => simp [hf] at h
      | some r =>
        simp only [hf, Option.map_some, Option.some.injEq, Prod.mk.injEq] at h
        obtain ⟨h1, h2⟩ := h
        rw [hk k (by rw [← h2]; exact List.mem_cons_self), he]
        simp only
        rw [ih e hf (fun k' hk' => hk k' (by rw [← h2]; exact List.mem_cons_of_mem _ hk'))]
        simp [h1, h2]
  | fresh id t ih =>
    intro us lg h hk
    simp only [RT.get] at h ⊢
    cases he : Mem.get (.head id) M with
    | some e => simp [he] at h
    | none =>
      simp only [he] at h
      cases hf : t.get M with
      | none => simp [hf] at h
      | some r =>
        simp only [hf, Option.map_some, Option.some.injEq, Prod.mk.injEq] at h
        obtain ⟨h1, h2⟩ := h
        rw [hk (.head id) (by rw [← h2]; exact List.mem_cons_self), he]
        simp only
        rw [ih hf (fun k' hk' => hk k' (by rw [← h2]; exact List.mem_cons_of_mem _ hk'))]
        simp [h1, h2]
  | int x f ih =>
    intro us lg h hk
    simp only [RT.get] at h ⊢
    cases x with
    | none => simp at h
    | some n => exact ih n h hk
  | nat x f ih =>
    intro us lg h hk
    simp only [RT.get] at h ⊢
    cases x with
    | none => simp at h
    | some n => exact ih n h hk
  | boo x f ih =>
    intro us lg h hk
    simp only [RT.get] at h ⊢
    cases x with
    | none => simp at h
    | some n => exact ih n h hk
  | str x f ih =>
    intro us lg h hk
    simp only [RT.get] at h ⊢
    cases x with
    | none => simp at h
    | some n => exact ih n h hk
  | lst x f ih =>
    intro us lg h hk
    simp only [RT.get] at h ⊢
    cases x with
    | none => simp at h
    | some n => exact ih n h hk
  | cnd b t e iht ihe =>
    intro us lg h hk
    simp only [RT.get] at h ⊢
    cases b
    · exact ihe h hk
    · exact iht h hk

theorem run_get {M : Mem} {R : List FV} : ∀ {t : RT} {lg : List Key} {K : List (Key × Ent) → List Key → Res}, t.run M lg K = some R →
    ∃ us l, t.get M = some (us, l) ∧ K us (l.reverse ++ lg) = some R := by
  intro t
  induction t with
  | ret us0 => intro lg K h; exact ⟨us0, [], rfl, h⟩
  | fail => intro lg K h; simp [RT.run] at h
  | rd k f ih =>
    intro lg K h
    simp only [RT.run] at h
    simp only [RT.get]
    cases he : Mem.get k M with
    | none => simp [he] at h
    | some e =>
      simp only [he] at h
      obtain ⟨us, l, h1, h2⟩ := ih e h
      exact ⟨us, k :: l, by simp [h1], by simpa using h2⟩
  | fresh id t ih =>
    intro lg K h
    simp only [RT.run] at h
    simp only [RT.get]
    cases he : Mem.get (.head id) M with
    | some e => simp [he] at h
    | none =>
      simp only [he] at h
      obtain ⟨us, l, h1, h2⟩ := ih h
      exact ⟨us, .head id :: l, by simp [h1], by simpa using h2⟩
  | int x f ih =>
    intro lg K h
    simp only [RT.run] at h
    cases x with
    | none => simp at h
    | some n => exact ih n h
  | nat x f ih =>
    intro lg K h
    simp only [RT.run] at h
    cases x with
    | none => simp at h
    | some n => exact ih n h
  | boo x f ih =>
    intro lg K h
    simp only [RT.run] at h
    cases x with
    | none => simp at h
    | some n => exact ih n h
  | str x f ih =>
    intro lg K h
    simp only [RT.run] at h
    cases x with
    | none => simp at h
    | some n => exact ih n h
  | lst x f ih =>
    intro lg K h
    simp only [RT.run] at h
    cases x with
    | none => simp at h
    | some n => exact ih n h
  | cnd b t e iht ihe =>
    intro lg K h
    simp only [RT.run] at h
    cases b
    · exact ihe h
    · exact iht h

/-- one operation, guarded or not: what it writes, and what it looked at -/
def StepOk (E : Env) (call : FuncId → List FV → Res) (ops : Array Oper) (o : Oper) (M : Mem) (us : List (Key × Ent)) (lg : List Key) : Prop :=
  match o.guard with
  | none => ∃ l, (rtOp E call o).get M = some (us, l) ∧ ∀ k, k ∈ l → k ∈ lg
  | some (j, want) => (∃ g b, (ops[j]?).bind (·.dst) = some g ∧ M.get (.slot g) = some (.sv (.fv (.bool b))) ∧ Key.slot g ∈ lg ∧
      ((b = want ∧ ∃ l, (rtOp E call o).get M = some (us, l) ∧ ∀ k, k ∈ l → k ∈ lg) ∨ (b ≠ want ∧ us = match o.dst with | some d => [(.slot d, .sv .gone)] | none => []))) ∨
      ∃ g, (ops[j]?).bind (·.dst) = some g ∧ M.get (.slot g) = some (.sv .gone) ∧ Key.slot g ∈ lg ∧ us = match o.dst with | some d => [(.slot d, .sv .gone)] | none => []

theorem SRep.gone_inv {hd : Nat → Option Ent} {v : Value} (h : SRep w S γ hd .gone v) : v = undef := by
  cases h with
  | gone => rfl
  | tomb hs _ => simp [SV.refId] at hs

theorem StepOk.near {ops : Array Oper} {M' : Mem} {lg : List Key} (h : StepOk E call ops o M us lg) (hk : ∀ k, k ∈ lg → Mem.get k M' = Mem.get k M) : StepOk E call ops o M' us lg := by
  unfold StepOk at h ⊢
  split
  · rename_i hgd
    rw [hgd] at h
    obtain ⟨l, h1, h2⟩ := h
    exact ⟨l, get_near h1 fun k q => hk k (h2 k q), h2⟩
  · rename_i j want hgd
    rw [hgd] at h
    rcases h with ⟨g, b, h1, h2, h3, h4⟩ | ⟨g, h1, h2, h3, h4⟩
    · refine .inl ⟨g, b, h1, by rw [hk _ h3]; exact h2, h3, ?_⟩
      rcases h4 with ⟨h4, l, h5, h6⟩ | h4
      · exact .inl ⟨h4, l, get_near h5 fun k q => hk k (h6 k q), h6⟩
      · exact .inr h4
    · exact .inr ⟨g, h1, by rw [hk _ h3]; exact h2, h3, h4⟩

theorem step_sim {ops : Array Oper} {i : Nat} {lg : List Key} (hE : EnvOk E) (hC : CallOk E call) (h : Rel X M a w γ S) {nt : Nat} {pins : List Nat} (hnt : nt ≤ X.nt) (hpin : ∀ d, d ∉ pins → X.pin d = none) (ho : opOk nt pins o = true) (hi : ops[i]? = some o) (hs : StepOk E call ops o M us lg)
    {next : Act → World → Prop} {Q : Exit → Act → World → Prop} (hn : ∀ a' w' γ' S', Rel X (us ++ M) a' w' γ' S' → next a' w') : wpOp E.P ops Q i next a w := by
  unfold wpOp
  simp only [hi]
  have skip : us = (match o.dst with | some d => [(.slot d, .sv .gone)] | none => []) → next (a.put o.dst undef) w := fun hus => by
    have hd : ∀ d, o.dst = some d → X.Dst d := fun d hd => by
      simp only [opOk, hd, Bool.and_eq_true] at ho
      exact ⟨Nat.lt_of_lt_of_le (Nat.le_of_ble_eq_true ho.1.1) hnt, hpin d (notElem_spec ho.1.2)⟩
    cases hdst : o.dst with
    | none => rw [hdst] at hus; subst hus; exact hn _ _ _ _ h
    | some d =>
      rw [hdst] at hus; subst hus
      exact hn _ _ _ _ (h.put (hd d hdst) .gone)
  have exec : (∃ l, (rtOp E call o).get M = some (us, l)) → o.wp E.P a w next Q := fun ⟨l, hl⟩ =>
    sim_op hE hC h hnt hpin ho ⟨l, hl⟩ next Q fun v w' γ' S' hR => hn _ _ _ _ hR
  unfold StepOk at hs
  cases hgd : o.guard with
  | none =>
    rw [hgd] at hs
    obtain ⟨l, h1, _⟩ := hs
    have : Region.wanted o (yielded ops a.tmps) = true := by simp [Region.wanted, hgd]
    rw [this, if_pos rfl]
    exact .inl (exec ⟨l, h1⟩)
  | some gw =>
    obtain ⟨j, want⟩ := gw
    rw [hgd] at hs
    rcases hs with ⟨g, b, h1, h2, _, h3⟩ | ⟨g, h1, h2, _, h4⟩
    case inr =>
      have hy : yielded ops a.tmps j = none := by
        have : a.tmps.getD g undef = undef := (h.slot g _ h2).gone_inv
        simp only [yielded, h1]
        rw [Array.getD_eq_getD_getElem?] at this
        cases hq : a.tmps[g]? with
        | none => simp [hq]
        | some v => rw [hq] at this; simp at this; subst this; simp [hq, undef]
      have hw : Region.wanted o (yielded ops a.tmps) = false := by simp [Region.wanted, hgd, hy]
      rw [hw]; simp only [Bool.false_eq_true, if_false]
      exact skip h4
    have hy : yielded ops a.tmps j = some b := by
      have := (h.slot g _ h2).bool_inv
      simp only [yielded, h1]
      rw [Array.getD_eq_getD_getElem?] at this
      cases hq : a.tmps[g]? with
      | none => rw [hq] at this; simp [undef] at this
      | some v => rw [hq] at this; simp at this; subst this; simp [hq]
    have hw : Region.wanted o (yielded ops a.tmps) = (b == want) := by simp [Region.wanted, hgd, hy]
    rcases h3 with ⟨rfl, l, h4, _⟩ | ⟨hne, h4⟩
    · rw [hw]; simp only [beq_self_eq_true, if_true]
      exact .inl (exec ⟨l, h4⟩)
    · rw [hw]
      have : (b == want) = false := by cases b <;> cases want <;> simp_all
      rw [this]; simp only [Bool.false_eq_true, if_false]
      exact skip h4

/-! ### a row of operations -/

abbrev Tr := List (List (Key × Ent) × List Key)

/-- the memory behind so many -/
def seqM (tr : Tr) (M : Mem) : Nat → Mem
  | 0 => M
  | i + 1 => ((tr[i]?).map (·.1)).getD [] ++ seqM tr M i

def MEq (M M' : Mem) : Prop := ∀ k, Mem.get k M' = Mem.get k M

theorem MEq.app {M M' : Mem} (h : MEq M M') (us : List (Key × Ent)) : MEq (us ++ M) (us ++ M') := fun k => by rw [Mem.get_append, Mem.get_append, h k]

theorem seqM_cons (u : List (Key × Ent) × List Key) (tr : Tr) (M : Mem) : ∀ i, seqM (u :: tr) M (i + 1) = seqM tr (u.1 ++ M) i
  | 0 => by simp [seqM]
  | i + 1 => by
    have := seqM_cons u tr M i
    rw [seqM, this, seqM]
    simp

theorem seqM_congr {tr : Tr} {M M' : Mem} (h : MEq M M') : ∀ i, MEq (seqM tr M i) (seqM tr M' i)
  | 0 => h
  | i + 1 => (seqM_congr h i).app _

theorem evOps_trace {ops : Array Oper} {R : List FV} : ∀ {r : List Oper} {M : Mem} {fs : List Fp} {K : Mem → List Fp → Res}, evOps E call ops r M fs K = some R →
    ∃ (tr : Tr) (M' : Mem), tr.length = r.length ∧ (∀ (i : Nat) (o : Oper) (u : List (Key × Ent) × List Key), r[i]? = some o → tr[i]? = some u → StepOk E call ops o (seqM tr M i) u.1 u.2) ∧ MEq (seqM tr M r.length) M' ∧
      K M' ((tr.map fun u => (u.2, keysOf u.1)).reverse ++ fs) = some R
  | [], M, fs, K, h => ⟨[], M, rfl, fun i o u h => by simp at h, fun _ => rfl, by simpa [evOps] using h⟩
  | o :: r, M, fs, K, h => by
    simp only [evOps] at h
    -- what follows
    have fin : ∀ {us : List (Key × Ent)} {lg : List Key} {M1 : Mem}, MEq (us ++ M) M1 → StepOk E call ops o M us lg → evOps E call ops r M1 ((lg, keysOf us) :: fs) K = some R →
        ∃ (tr : Tr) (M' : Mem), tr.length = (o :: r).length ∧ (∀ (i : Nat) (o' : Oper) (u : List (Key × Ent) × List Key), (o :: r)[i]? = some o' → tr[i]? = some u → StepOk E call ops o' (seqM tr M i) u.1 u.2) ∧
          MEq (seqM tr M (o :: r).length) M' ∧ K M' ((tr.map fun u => (u.2, keysOf u.1)).reverse ++ fs) = some R := by
      intro us lg M1 hM hs h1
      obtain ⟨tr, M', t1, t2, t3, t4⟩ := evOps_trace h1
      refine ⟨(us, lg) :: tr, M', by simp [t1], fun i o' u h2 h3 => ?_, ?_, by simpa using t4⟩
      · cases i with
        | zero => simp at h2 h3; subst h2; subst h3; exact hs
        | succ i =>
          rw [seqM_cons]
          exact (t2 i o' u (by simpa using h2) (by simpa using h3)).near fun k _ => (seqM_congr hM i k).symm
      · rw [List.length_cons, seqM_cons]
        exact fun k => (t3 k).trans (seqM_congr hM r.length k)
    cases hgd : o.guard with
    | none =>
      rw [hgd] at h
      obtain ⟨us, l, h1, h2⟩ := run_get h
      refine fin (us := us) (lg := l.reverse ++ []) (fun _ => rfl) ?_ (by simpa [keysOf] using h2)
      unfold StepOk
      rw [hgd]
      exact ⟨l, h1, fun k hk => by simpa using hk⟩
    | some gw =>
      obtain ⟨j, want⟩ := gw
      rw [hgd] at h
      simp only at h
      split at h
      · rename_i g hg
        split at h
        · rename_i b hb
          have hput : ∀ b', b' = b → MEq M ((.slot g, .sv (.fv (.bool b'))) :: M) := fun b' hbb k => by
            rw [Mem.get_cons]
            split
            · rename_i hk; subst hk; rw [hb, hbb]
            · rfl
          have exec : ∀ b', b' = b → b = want → (rtOp E call o).run ((.slot g, .sv (.fv (.bool b'))) :: M) [.slot g] (fun us lg => evOps E call ops r (us ++ ((.slot g, .sv (.fv (.bool b'))) :: M)) ((lg, keysOf us ++ keysOf []) :: fs) K) = some R →
              ∃ (tr : Tr) (M' : Mem), tr.length = (o :: r).length ∧ (∀ (i : Nat) (o' : Oper) (u : List (Key × Ent) × List Key), (o :: r)[i]? = some o' → tr[i]? = some u → StepOk E call ops o' (seqM tr M i) u.1 u.2) ∧
          MEq (seqM tr M (o :: r).length) M' ∧ K M' ((tr.map fun u => (u.2, keysOf u.1)).reverse ++ fs) = some R := fun b' hbb hbw h1 => by
            obtain ⟨us, l, h2, h3⟩ := run_get h1
            refine fin (us := us) (lg := l.reverse ++ [.slot g]) ((hput b' hbb).app us) ?_ (by simpa [keysOf] using h3)
            unfold StepOk
            rw [hgd]
            exact .inl ⟨g, b, hg, hb, by simp, .inl ⟨hbw, l, get_near h2 fun k _ => (hput b' hbb k).symm, fun k hk => by simp [hk]⟩⟩
          have skip : ∀ b', b' = b → b ≠ want → (match o.dst with
              | some d => evOps E call ops r ((.slot d, .sv .gone) :: (.slot g, .sv (.fv (.bool b'))) :: M) (([.slot g], [.slot d]) :: fs) K
              | none => evOps E call ops r ((.slot g, .sv (.fv (.bool b'))) :: M) (([.slot g], []) :: fs) K) = some R →
              ∃ (tr : Tr) (M' : Mem), tr.length = (o :: r).length ∧ (∀ (i : Nat) (o' : Oper) (u : List (Key × Ent) × List Key), (o :: r)[i]? = some o' → tr[i]? = some u → StepOk E call ops o' (seqM tr M i) u.1 u.2) ∧
          MEq (seqM tr M (o :: r).length) M' ∧ K M' ((tr.map fun u => (u.2, keysOf u.1)).reverse ++ fs) = some R := fun b' hbb hbw h1 => by
            cases hdst : o.dst with
            | none =>
              rw [hdst] at h1
              refine fin (us := []) (lg := [.slot g]) (hput b' hbb) ?_ (by simpa [keysOf] using h1)
              unfold StepOk
              rw [hgd]
              exact .inl ⟨g, b, hg, hb, by simp, .inr ⟨hbw, by rw [hdst]⟩⟩
            | some d =>
              rw [hdst] at h1
              refine fin (us := [(.slot d, .sv .gone)]) (lg := [.slot g]) ((hput b' hbb).app [(.slot d, .sv .gone)]) ?_ (by simpa [keysOf] using h1)
              unfold StepOk
              rw [hgd]
              exact .inl ⟨g, b, hg, hb, by simp, .inr ⟨hbw, by rw [hdst]⟩⟩
          cases b <;> cases want
          · exact exec false rfl rfl h
          · exact skip false rfl (by simp) h
          · exact skip true rfl (by simp) h
          · exact exec true rfl rfl h
        · rename_i hb
          cases hdst : o.dst with
          | none =>
            rw [hdst] at h
            refine fin (us := []) (lg := [.slot g]) (fun _ => rfl) ?_ (by simpa [keysOf] using h)
            unfold StepOk
            rw [hgd]
            exact .inr ⟨g, hg, hb, by simp, by rw [hdst]⟩
          | some d =>
            rw [hdst] at h
            refine fin (us := [(.slot d, .sv .gone)]) (lg := [.slot g]) (fun _ => rfl) ?_ (by simpa [keysOf] using h)
            unfold StepOk
            rw [hgd]
            exact .inr ⟨g, hg, hb, by simp, by rw [hdst]⟩
        · simp at h
      · simp at h

/-- the operations in the order of the text -/
theorem range_sim {ops : Array Oper} {nt : Nat} {pins : List Nat} (hE : EnvOk E) (hC : CallOk E call) (hnt : nt ≤ X.nt) (hpin : ∀ d, d ∉ pins → X.pin d = none) (hops : ∀ (i : Nat) (o : Oper), ops[i]? = some o → opOk nt pins o = true) {tr : Tr} (hlen : tr.length = ops.size)
    (htr : ∀ (i : Nat) (o : Oper) (u : List (Key × Ent) × List Key), ops[i]? = some o → tr[i]? = some u → StepOk E call ops o (seqM tr M i) u.1 u.2) {Q : Exit → Act → World → Prop}
    (hQ : ∀ a' w' γ' S', Rel X (seqM tr M ops.size) a' w' γ' S' → Q .normal a' w') :
    ∀ (n i : Nat) (a : Act) (w : World) (γ : Nat → Gh) (S : Nat → Prop), i + n = ops.size → Rel X (seqM tr M i) a w γ S → wpOps E.P ops Q (List.range' i n) a w
  | 0, i, a, w, γ, S, hi, h => by
    have : i = ops.size := by omega
    subst this
    exact hQ a w γ S h
  | n + 1, i, a, w, γ, S, hi, h => by
    rw [List.range'_succ, wpOps_cons]
    have hlt : i < ops.size := by omega
    have ho : ops[i]? = some ops[i] := Array.getElem?_eq_getElem hlt
    have hu : tr[i]? = some tr[i] := List.getElem?_eq_getElem (by omega)
    refine step_sim hE hC h hnt hpin (hops i _ ho) ho (htr i _ _ ho hu) fun a' w' γ' S' hR => ?_
    refine range_sim hE hC hnt hpin hops hlen htr hQ n (i + 1) a' w' γ' S' (by omega) ?_
    rw [seqM, hu]
    exact hR

end
end Rf
