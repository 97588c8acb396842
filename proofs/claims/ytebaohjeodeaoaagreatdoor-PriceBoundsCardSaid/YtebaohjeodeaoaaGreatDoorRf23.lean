/- Operations in whatever order. -/
import Derived.Test.YtebaohjeodeaoaaGreatDoorRf22
namespace Rf
open Go

/-! ### what stands ahead of what -/

theorem foldPush (g : Array Nat → Oper → Nat) : ∀ (l : List Oper) (A : Array Nat), (l.foldl (fun acc o => acc.push (g acc o)) A).size = A.size + l.length ∧ (∀ i, i < A.size → (l.foldl (fun acc o => acc.push (g acc o)) A)[i]? = A[i]?) ∧
    ∀ (j : Nat) (o : Oper), l[j]? = some o → ∃ C : Array Nat, (l.foldl (fun acc o => acc.push (g acc o)) A)[A.size + j]? = some (g C o) ∧ C.size = A.size + j ∧ ∀ i, i < C.size → C[i]? = (l.foldl (fun acc o => acc.push (g acc o)) A)[i]?
  | [], A => ⟨by simp, fun i _ => rfl, fun j o h => by simp at h⟩
  | o :: l, A => by
    rw [List.foldl_cons]
    obtain ⟨h1, h2, h3⟩ := foldPush g l (A.push (g A o))
    have hs : (A.push (g A o)).size = A.size + 1 := by simp
    refine ⟨by rw [h1, hs]; simp; omega, fun i hi => ?_, fun j o' hj => ?_⟩
    · rw [h2 i (by rw [hs]; omega), Array.getElem?_push_lt hi, Array.getElem?_eq_getElem hi]
    · cases j with
      | zero =>
        simp at hj; subst hj
        refine ⟨A, ?_, by simp, fun i hi => ?_⟩
        · rw [Nat.add_zero, h2 A.size (by rw [hs]; omega)]; simp
        · rw [h2 i (by rw [hs]; omega), Array.getElem?_push_lt hi, Array.getElem?_eq_getElem hi]
      | succ j =>
        obtain ⟨C, q1, q2, q3⟩ := h3 j o' (by simpa using hj)
        rw [hs] at q1 q2
        exact ⟨C, by rw [← q1]; congr 1; omega, by omega, q3⟩

theorem after_bit {acc : Array Nat} {i : Nat} : ∀ {l : List Edge} {s : Nat}, (l.foldl (fun s e => if Region.binds .any e then s ||| 2 ^ e.on ||| acc.getD e.on 0 else s) s).testBit i = true →
    s.testBit i = true ∨ ∃ e, e ∈ l ∧ Region.binds .any e = true ∧ (e.on = i ∨ (acc.getD e.on 0).testBit i = true)
  | [], s, h => .inl h
  | e :: l, s, h => by
    rw [List.foldl_cons] at h
    rcases after_bit h with h1 | ⟨e', h1, h2⟩
    · split at h1
      · rename_i hb
        rw [Nat.testBit_or, Nat.testBit_or, Nat.testBit_two_pow] at h1
        simp only [Bool.or_eq_true, decide_eq_true_eq] at h1
        rcases h1 with (h1 | h1) | h1
        · exact .inl h1
        · exact .inr ⟨e, List.mem_cons_self, hb, .inl h1⟩
        · exact .inr ⟨e, List.mem_cons_self, hb, .inr h1⟩
      · exact .inl h1
    · exact .inr ⟨e', List.mem_cons_of_mem _ h1, h2⟩

theorem before_bit {ops : Array Oper} {j : Nat} {o : Oper} (ho : ops[j]? = some o) {i : Nat} (h : ((Region.before ops).getD j 0).testBit i = true) :
    ∃ e, e ∈ o.after.toList ∧ Region.binds .any e = true ∧ (e.on = i ∨ ((Region.before ops).getD e.on 0).testBit i = true) := by
  have hb : Region.before ops = ops.toList.foldl (fun acc o => acc.push (o.after.toList.foldl (fun s e => if Region.binds .any e then s ||| 2 ^ e.on ||| acc.getD e.on 0 else s) 0)) #[] := by
    unfold Region.before
    rw [← Array.foldl_toList]
    congr 1
    funext acc o
    rw [← Array.foldl_toList]
  obtain ⟨h1, h2, h3⟩ := foldPush (fun acc o => o.after.toList.foldl (fun s e => if Region.binds .any e then s ||| 2 ^ e.on ||| acc.getD e.on 0 else s) 0) ops.toList #[]
  obtain ⟨C, q1, q2, q3⟩ := h3 j o (by rw [Array.getElem?_toList]; exact ho)
  rw [← hb] at h1 h2 q1 q3
  simp only [List.size_toArray, List.length_nil, Nat.zero_add] at q1 q2
  rw [Array.getD_eq_getD_getElem?, q1, Option.getD_some] at h
  rcases after_bit h with h | ⟨e, e1, e2, e3⟩
  · simp at h
  · refine ⟨e, e1, e2, ?_⟩
    rcases e3 with e3 | e3
    · exact .inl e3
    · right
      rw [Array.getD_eq_getD_getElem?] at e3 ⊢
      by_cases hlt : e.on < C.size
      · rw [← q3 e.on hlt]; exact e3
      · rw [Array.getElem?_eq_none (by omega)] at e3; simp at e3

/-! ### footprints -/

theorem noneIn_spec {a b : List Key} (h : noneIn a b = true) : ∀ k, k ∈ a → k ∉ b := fun k ha hb => by
  simp only [noneIn, List.all_eq_true, Bool.not_eq_true', List.any_eq_false] at h
  exact h k ha k hb ((Key.beq_iff k k).2 rfl)

structure Apart (f g : Fp) : Prop where
  wr : ∀ k, k ∈ f.2 → k ∉ g.1
  rw : ∀ k, k ∈ g.2 → k ∉ f.1
  ww : ∀ k, k ∈ f.2 → k ∉ g.2

theorem fpOk_inner {bj : Nat} {f : Fp} : ∀ {gs : List Fp} {i : Nat}, fpOk.inner bj f i gs = true → ∀ (q : Nat) (g : Fp), q ≤ i → gs[q]? = some g → bj.testBit (i - q) = true ∨ Apart f g
  | [], i, _, q, g, _, h => by simp at h
  | g0 :: gs, i, h, q, g, hq, hg => by
    simp only [fpOk.inner, Bool.and_eq_true, Bool.or_eq_true] at h
    cases q with
    | zero =>
      simp at hg; subst hg
      rcases h.1 with h1 | h1
      · exact .inl h1
      · exact .inr ⟨noneIn_spec h1.1.1, noneIn_spec h1.1.2, noneIn_spec h1.2⟩
    | succ q =>
      have := fpOk_inner h.2 q g (by omega) (by simpa using hg)
      rwa [show i - 1 - q = i - (q + 1) by omega] at this

theorem fpOk_spec {before : Array Nat} : ∀ {fs : List Fp} {k : Nat}, fpOk before k fs = true → fs.length ≤ k + 1 → ∀ (p q : Nat) (f g : Fp), p < q → fs[p]? = some f → fs[q]? = some g → (before.getD (k - p) 0).testBit (k - q) = true ∨ Apart f g
  | [], k, _, _, p, q, f, g, _, h, _ => by simp at h
  | f0 :: fs, k, h, hl, p, q, f, g, hpq, hf, hg => by
    simp only [fpOk, Bool.and_eq_true] at h
    have hql := (List.getElem?_eq_some_iff.1 hg).1
    simp only [List.length_cons] at hl hql
    obtain ⟨q', rfl⟩ : ∃ q', q = q' + 1 := ⟨q - 1, by omega⟩
    cases p with
    | zero =>
      simp at hf; subst hf
      have := fpOk_inner h.1 q' g (by omega) (by simpa using hg)
      rwa [show k - 1 - q' = k - (q' + 1) by omega] at this
    | succ p =>
      have := fpOk_spec h.2 (by omega) p q' f g (by omega) (by simpa using hf) (by simpa using hg)
      rwa [show k - 1 - p = k - (p + 1) by omega, show k - 1 - q' = k - (q' + 1) by omega] at this

/-- of a row's own footprints -/
theorem fpOk_tr {before : Array Nat} {tr : Tr} {n : Nat} (hn : tr.length = n) (h : fpOk before (n - 1) (tr.map fun u => (u.2, keysOf u.1)).reverse = true) (i j : Nat) (u v : List (Key × Ent) × List Key) (hij : i < j) (hi : tr[i]? = some u) (hj : tr[j]? = some v) :
    (before.getD j 0).testBit i = true ∨ Apart (v.2, keysOf v.1) (u.2, keysOf u.1) := by
  have hjl := (List.getElem?_eq_some_iff.1 hj).1
  have hg : ∀ (m : Nat) (x : List (Key × Ent) × List Key), tr[m]? = some x → ((tr.map fun u => (u.2, keysOf u.1)).reverse)[n - 1 - m]? = some (x.2, keysOf x.1) := fun m x hm => by
    have hml := (List.getElem?_eq_some_iff.1 hm).1
    rw [List.getElem?_reverse (by simp; omega)]
    simp only [List.length_map, List.getElem?_map, hn]
    rw [show n - 1 - (n - 1 - m) = m by omega, hm]; rfl
  have := fpOk_spec h (by simp; omega) (n - 1 - j) (n - 1 - i) _ _ (by omega) (hg j v hj) (hg i u hi)
  rwa [show n - 1 - (n - 1 - j) = j by omega, show n - 1 - (n - 1 - i) = i by omega] at this

/-! ### any order -/

/-- each waits for earlier ones alone -/
def Topo (ops : Array Oper) : Prop := ∀ (i : Nat) (o : Oper), ops[i]? = some o → ∀ e, e ∈ o.after.toList → Region.binds .any e = true → e.on < i

theorem topoEdges_spec {i : Nat} : ∀ {l : List Edge}, topoEdges i l = true → ∀ e, e ∈ l → Region.binds .any e = true → e.on < i
  | [], _, e, he, _ => by simp at he
  | x :: l, h, e, he, hb => by
    simp only [topoEdges, Bool.and_eq_true] at h
    rcases List.mem_cons.1 he with rfl | he
    · have := h.1
      rw [hb] at this
      simp only [Bool.not_true, Bool.false_or] at this
      exact Nat.le_of_ble_eq_true this
    · exact topoEdges_spec h.2 e he hb

theorem opsOk_spec {nt : Nat} {pins : List Nat} : ∀ {l : List Oper} {i : Nat}, opsOk nt pins i l = true → ∀ (j : Nat) (o : Oper), l[j]? = some o → opOk nt pins o = true ∧ topoEdges (i + j) o.after.toList = true
  | [], i, _, j, o, h => by simp at h
  | x :: l, i, h, j, o, hj => by
    simp only [opsOk, Bool.and_eq_true] at h
    cases j with
    | zero => simp at hj; subst hj; exact ⟨h.1.1, h.1.2⟩
    | succ j =>
      have := opsOk_spec h.2 j o (by simpa using hj)
      rwa [show i + 1 + j = i + (j + 1) by omega] at this

/-- the memory behind those of D -/
def memD (tr : Tr) (M : Mem) (D : Nat → Bool) : Nat → Mem
  | 0 => M
  | i + 1 => if D i = true then ((tr[i]?).map (·.1)).getD [] ++ memD tr M D i else memD tr M D i

theorem get_keys {k : Key} {us : List (Key × Ent)} (h : k ∉ keysOf us) : Mem.get k us = none := get_miss fun e he => h (List.mem_map.2 ⟨(k, e), he, rfl⟩)

theorem keys_get {k : Key} : ∀ {us : List (Key × Ent)}, k ∈ keysOf us → ∃ e, Mem.get k us = some e
  | [], h => by simp [keysOf] at h
  | (k', e) :: us, h => by
    rw [Mem.get_cons]
    split
    · exact ⟨e, rfl⟩
    · rename_i hk
      exact keys_get (by
        simp only [keysOf, List.map_cons, List.mem_cons] at h
        exact h.resolve_left hk)

section
variable {E : Env} {call : FuncId → List FV → Res} {X : Cx} {M : Mem} {a : Act} {w : World} {γ : Nat → Gh} {S : Nat → Prop} {us : List (Key × Ent)} {o : Oper}

/-- a row's footprints, as they should be -/
def FpTr (ops : Array Oper) (tr : Tr) : Prop := ∀ (i j : Nat) (u v : List (Key × Ent) × List Key), i < j → tr[i]? = some u → tr[j]? = some v → ((Region.before ops).getD j 0).testBit i = true ∨ Apart (v.2, keysOf v.1) (u.2, keysOf u.1)

def Closed (ops : Array Oper) (D : Nat → Bool) : Prop := ∀ j, j < ops.size → D j = true → ∀ i, ((Region.before ops).getD j 0).testBit i = true → D i = true

theorem memD_local {ops : Array Oper} {tr : Tr} {D : Nat → Bool} (hl : tr.length = ops.size) (hfp : FpTr ops tr) (hc : Closed ops D) {i : Nat} {u : List (Key × Ent) × List Key} (hu : tr[i]? = some u) (hD : D i = false)
    (hb : ∀ m, ((Region.before ops).getD i 0).testBit m = true → D m = true) : ∀ k, k ∈ u.2 → Mem.get k (memD tr M D ops.size) = Mem.get k (seqM tr M i) := fun k hk => by
  have hil : i < ops.size := by rw [← hl]; exact (List.getElem?_eq_some_iff.1 hu).1
  have s1 : ∀ m, m ≤ i → Mem.get k (memD tr M D m) = Mem.get k (seqM tr M m) := fun m => by
    induction m with
    | zero => intro _; rfl
    | succ m ih =>
      intro hm
      have hv : tr[m]? = some tr[m] := List.getElem?_eq_getElem (by omega)
      rw [memD, seqM, hv]
      simp only [Option.map_some, Option.getD_some]
      split
      · rw [Mem.get_append, Mem.get_append, ih (by omega)]
      · rename_i hDm
        rcases hfp m i _ u (by omega) hv hu with q | q
        · exact absurd (hb m q) hDm
        · rw [Mem.get_append, get_keys (fun hk' => q.rw k hk' hk), Option.none_or]
          exact ih (by omega)
  have s2 : ∀ m, m ≤ ops.size → i ≤ m → Mem.get k (memD tr M D m) = Mem.get k (memD tr M D i) := fun m => by
    induction m with
    | zero => intro _ h; have : i = 0 := by omega
              subst this; rfl
    | succ m ih =>
      intro hm him
      by_cases he : i = m + 1
      · subst he; rfl
      · have hv : tr[m]? = some tr[m] := List.getElem?_eq_getElem (by omega)
        rw [memD]
        split
        · rename_i hDm
          have hne : i ≠ m := fun e => by subst e; rw [hD] at hDm; cases hDm
          rcases hfp i m u _ (by omega) hu hv with q | q
          · have := hc m (by omega) hDm i q
            rw [hD] at this; cases this
          · rw [hv]
            simp only [Option.map_some, Option.getD_some]
            rw [Mem.get_append, get_keys (fun hk' => q.wr k hk' hk), Option.none_or]
            exact ih (by omega) (by omega)
        · exact ih (by omega) (by omega)
  rw [s2 ops.size (Nat.le_refl _) (by omega), s1 i (Nat.le_refl _)]

theorem memD_add {ops : Array Oper} {tr : Tr} {D D' : Nat → Bool} (hl : tr.length = ops.size) (hfp : FpTr ops tr) (hc : Closed ops D) {i : Nat} {u : List (Key × Ent) × List Key} (hu : tr[i]? = some u) (hD : D i = false)
    (hD' : ∀ j, j < ops.size → D' j = (if j = i then true else D j)) : MEq (u.1 ++ memD tr M D ops.size) (memD tr M D' ops.size) := by
  have hil : i < ops.size := by rw [← hl]; exact (List.getElem?_eq_some_iff.1 hu).1
  have s1 : ∀ m, m ≤ i → memD tr M D' m = memD tr M D m := fun m => by
    induction m with
    | zero => intro _; rfl
    | succ m ih =>
      intro hm
      have hne : ¬ m = i := by omega
      have hq : D' m = D m := by rw [hD' m (by omega), if_neg hne]
      rw [memD, memD, ih (by omega), hq]
  have s2 : ∀ m, m ≤ ops.size → i < m → MEq (u.1 ++ memD tr M D m) (memD tr M D' m) := fun m => by
    induction m with
    | zero => intro _ h; omega
    | succ m ih =>
      intro hm him
      by_cases he : i = m
      · subst he
        rw [memD, memD, hD' i hil, if_pos rfl, if_pos rfl, if_neg (by rw [hD]; simp), s1 i (Nat.le_refl _), hu]
        exact fun _ => rfl
      · have hv : tr[m]? = some tr[m] := List.getElem?_eq_getElem (by omega)
        rw [memD, memD, hD' m (by omega), if_neg (Ne.symm he)]
        split
        · rename_i hDm
          have ih := ih (by omega) (by omega)
          rcases hfp i m u _ (by omega) hu hv with q | q
          · have := hc m (by omega) hDm i q
            rw [hD] at this; cases this
          · rw [hv]
            simp only [Option.map_some, Option.getD_some]
            intro k
            have ihk := ih k
            rw [Mem.get_append] at ihk
            rw [Mem.get_append, Mem.get_append, Mem.get_append, ihk]
            by_cases hk : k ∈ keysOf tr[m].1
            · obtain ⟨e, hke⟩ := keys_get hk
              rw [get_keys (us := u.1) (q.ww k hk), hke]; simp
            · rw [get_keys hk]; simp
        · exact ih (by omega) (by omega)
  exact s2 ops.size (Nat.le_refl _) hil

theorem filter_le {p p' : Nat → Bool} (hp : ∀ j, p' j = true → p j = true) : ∀ (l : List Nat), (l.filter p').length ≤ (l.filter p).length
  | [] => by simp
  | x :: l => by
    have ih := filter_le hp l
    simp only [List.filter_cons]
    cases h' : p' x with
    | true => rw [hp x h']; simp; exact ih
    | false => cases h : p x <;> simp <;> omega

theorem filter_lt {p p' : Nat → Bool} (hp : ∀ j, p' j = true → p j = true) {i : Nat} (h : p i = true) (h' : p' i = false) : ∀ {l : List Nat}, i ∈ l → (l.filter p').length < (l.filter p).length
  | [], hm => by simp at hm
  | x :: l, hm => by
    simp only [List.filter_cons]
    rcases List.mem_cons.1 hm with rfl | hm
    · rw [h, h']
      have := filter_le hp l
      simp; omega
    · have ih := filter_lt hp h h' hm
      cases q' : p' x with
      | true => rw [hp x q']; simp; omega
      | false => cases q : p x <;> simp <;> omega

theorem any_sim {ops : Array Oper} {nt : Nat} {pins : List Nat} (hE : EnvOk E) (hC : CallOk E call) (hnt : nt ≤ X.nt) (hpin : ∀ d, d ∉ pins → X.pin d = none) (hops : ∀ (i : Nat) (o : Oper), ops[i]? = some o → opOk nt pins o = true) (htopo : Topo ops) {tr : Tr} (hlen : tr.length = ops.size)
    (htr : ∀ (i : Nat) (o : Oper) (u : List (Key × Ent) × List Key), ops[i]? = some o → tr[i]? = some u → StepOk E call ops o (seqM tr M i) u.1 u.2) (hfp : FpTr ops tr) {Q : Exit → Act → World → Prop}
    (hQ : ∀ a' w' γ' S', Rel X (seqM tr M ops.size) a' w' γ' S' → Q .normal a' w') :
    ∀ (fuel : Nat) (listed : Array Bool) (a : Act) (w : World) (γ : Nat → Gh) (S : Nat → Prop), listed.size = ops.size → Closed ops (fun i => listed.getD i false) → ((List.range ops.size).filter fun i => !listed.getD i true).length ≤ fuel →
      Rel X (memD tr M (fun i => listed.getD i false) ops.size) a w γ S → wpAny E.P .any ops Q fuel listed a w := by
  -- nothing is left
  have done : ∀ (listed : Array Bool) (a : Act) (w : World) (γ : Nat → Gh) (S : Nat → Prop), (∀ i, i < ops.size → listed.getD i false = true) → Rel X (memD tr M (fun i => listed.getD i false) ops.size) a w γ S → Q .normal a w := fun listed a w γ S hall h => by
    have : ∀ m, m ≤ ops.size → memD tr M (fun i => listed.getD i false) m = seqM tr M m := fun m => by
      induction m with
      | zero => intro _; rfl
      | succ m ih => intro hm; rw [memD, seqM, ih (by omega), if_pos (hall m (by omega))]
    rw [this _ (Nat.le_refl _)] at h
    exact hQ a w γ S h
  have get : ∀ (listed : Array Bool) (i : Nat), listed.size = ops.size → i < ops.size → listed.getD i true = listed.getD i false := fun listed i hs hi => by
    rw [Array.getD_eq_getD_getElem?, Array.getD_eq_getD_getElem?, Array.getElem?_eq_getElem (by omega)]; rfl
  -- what is not ready waits for another
  have stuck : ∀ (listed : Array Bool), listed.size = ops.size → Region.ready .any ops listed = [] → ∀ i, i < ops.size → listed.getD i false = true := fun listed hs hr i => by
    induction i using Nat.strongRecOn with
    | _ i ih =>
      intro hi
      apply Classical.byContradiction
      intro hn
      have hno : listed.getD i false = false := by simpa using hn
      have : i ∈ Region.ready .any ops listed := by
        unfold Region.ready
        rw [List.mem_filter]
        refine ⟨List.mem_range.2 hi, ?_⟩
        rw [get listed i hs hi, hno]
        simp only [Bool.not_false, Bool.true_and]
        rw [Array.getElem?_eq_getElem hi, Option.map_some, Option.getD_some, Array.all_eq_true_iff_forall_mem]
        intro e he
        cases hb : Region.binds .any e with
        | false => rfl
        | true =>
          have hlt := htopo i _ (Array.getElem?_eq_getElem hi) e (by simpa using he) hb
          simp only [Bool.not_true, Bool.false_or]
          exact ih e.on hlt (by omega)
      rw [hr] at this
      simp at this
  intro fuel
  induction fuel with
  | zero =>
    intro listed a w γ S hs hc hf h
    have hall : ∀ i, i < ops.size → listed.getD i false = true := fun i hi => by
      apply Classical.byContradiction
      intro hn
      have hno : listed.getD i false = false := by simpa using hn
      have : i ∈ (List.range ops.size).filter fun i => !listed.getD i true := List.mem_filter.2 ⟨List.mem_range.2 hi, by rw [get listed i hs hi, hno]; rfl⟩
      rw [List.length_eq_zero_iff.1 (Nat.le_zero.1 hf)] at this
      simp at this
    refine ⟨?_, done listed a w γ S hall h⟩
    apply List.filter_eq_nil_iff.2
    intro i hi
    have hi' := List.mem_range.1 hi
    rw [get listed i hs hi', hall i hi']
    simp
  | succ fuel ih =>
    intro listed a w γ S hs hc hf h
    refine ⟨fun hr => done listed a w γ S (stuck listed hs hr) h, fun i hi => ?_⟩
    unfold Region.ready at hi
    rw [List.mem_filter] at hi
    obtain ⟨hi1, hi2⟩ := hi
    have hil := List.mem_range.1 hi1
    have ho : ops[i]? = some ops[i] := Array.getElem?_eq_getElem hil
    rw [ho, Option.map_some, Option.getD_some, Bool.and_eq_true, get listed i hs hil, Array.all_eq_true_iff_forall_mem] at hi2
    obtain ⟨hD, haft⟩ := hi2
    have hD' : listed.getD i false = false := by simpa using hD
    have hb : ∀ m, ((Region.before ops).getD i 0).testBit m = true → listed.getD m false = true := fun m hm => by
      obtain ⟨e, e1, e2, e3⟩ := before_bit ho hm
      have := haft e (by simpa using e1)
      rw [e2] at this
      simp only [Bool.not_true, Bool.false_or] at this
      rcases e3 with rfl | e3
      · exact this
      · have hlt := htopo i _ ho e e1 e2
        exact hc e.on (by omega) this m e3
    have hu : tr[i]? = some tr[i] := List.getElem?_eq_getElem (by omega)
    have hstep := (htr i _ _ ho hu).near (M' := memD tr M (fun i => listed.getD i false) ops.size) (fun k hk => memD_local hlen hfp hc hu hD' hb k hk)
    have hset : ∀ j, j < ops.size → (listed.setIfInBounds i true).getD j false = (if j = i then true else listed.getD j false) := fun j hj => by
      rw [Array.getD_eq_getD_getElem?, Array.getD_eq_getD_getElem?]
      by_cases hji : j = i
      · subst hji; rw [if_pos rfl, Array.getElem?_setIfInBounds_self_of_lt (by omega)]; rfl
      · rw [if_neg hji, Array.getElem?_setIfInBounds_ne (Ne.symm hji)]
    refine step_sim hE hC h hnt hpin (hops i _ ho) ho hstep fun a' w' γ' S' hR => ?_
    have hs' : (listed.setIfInBounds i true).size = ops.size := by simpa using hs
    refine ih _ a' w' γ' S' hs' (fun j hj hDj m hm => ?_) ?_ (hR.congr fun k => (memD_add hlen hfp hc hu hD' hset k))
    · have hm' : listed.getD m false = true := by
        simp only at hDj
        rw [hset j hj] at hDj
        split at hDj
        · rename_i e; subst e; exact hb m hm
        · exact hc j hj hDj m hm
      simp only
      rw [Array.getD_eq_getD_getElem?]
      by_cases hmi : m = i
      · subst hmi; rw [Array.getElem?_setIfInBounds_self_of_lt (by omega)]; rfl
      · rw [Array.getElem?_setIfInBounds_ne (Ne.symm hmi), ← Array.getD_eq_getD_getElem?]; exact hm'
    · have hlt := filter_lt (p := fun j => !listed.getD j true) (p' := fun j => !(listed.setIfInBounds i true).getD j true) (i := i) (fun j hj => by
        have : (listed.setIfInBounds i true).getD j true = false := by simpa using hj
        rw [Array.getD_eq_getD_getElem?] at this
        by_cases hji : j = i
        · subst hji; rw [Array.getElem?_setIfInBounds_self_of_lt (by omega)] at this; cases this
        · rw [Array.getElem?_setIfInBounds_ne (Ne.symm hji), ← Array.getD_eq_getD_getElem?] at this
          rw [this]; rfl) (by rw [get listed i hs hil, hD']; rfl) (by rw [get _ i hs' hil, hset i hil, if_pos rfl]; rfl) (List.mem_range.2 hil)
      omega

end
end Rf
