/- What goes in and out of a call, by tokens: told, without names. -/
import Derived.Test.YtebaohjeodeaoaaGreatDoorRf16
namespace Rf
open Go

/-- an owned row -/
def VRep (w : World) (S : Nat → Prop) (g : Gh) (sz : Nat) (xs : List FV) : Prop :=
  xs.length ≤ g.cap ∧ (if g.nil = true then xs = [] ∧ g.cap = 0 else
    ∃ vals e, w.heap[g.blk]? = some (.cells vals e (0, 0)) ∧ g.off + g.cap * sz ≤ vals.size ∧ Row w S g.blk g.off sz xs)

/-- of what make: size and number of a row's elements; cells of an object -/
abbrev Sh := Option (Nat × Nat) × Option ObK

abbrev GA := List (Gh × Sh)

def leafT : Tok → FV → Prop
  | .int k, .int k' _ => k = k'
  | .bool, .bool _ => True
  | .str, .str _ => True
  | .lst s, .list s' _ => s = s'
  | .raw u, .raw u' => u' = u ∧ u.oneCell' = true
  | .fn, .raw u' => u'.oneCell' = true
  | _, _ => False

/-- these values read as these leaves; 'acc': where what is owned lies, so far; 'fin': in all -/
def TRep (w : World) (S : Nat → Prop) : List Tok → List Value → List FV → GA → GA → Prop
  | [], V, L, acc, fin => V = [] ∧ L = [] ∧ fin = acc
  | t :: T, V, L, acc, fin => match t with
    | .skip => ∃ v V', V = v :: V' ∧ TRep w S T V' L acc fin
    | .own sz => ∃ g xs V' L', V = .slice g.base xs.length g.cap :: V' ∧ L = .list sz xs :: L' ∧ VRep w S g sz xs ∧ TRep w S T V' L' (acc ++ [(g, (some (sz, xs.length), none))]) fin
    | .obj k => ∃ g vals e V', V = .pointer (some ⟨g.blk, 0, none⟩) :: V' ∧ g.nil = false ∧ w.heap[g.blk]? = some (.cells vals e (0, 0)) ∧ vals.size = k ∧ TRep w S T (vals.toList ++ V') L (acc ++ [(g, (none, some (.n k)))]) fin
    | .ref j => ∃ g r k V', acc[j]? = some (g, (r, some (.n k))) ∧ g.nil = false ∧ V = .pointer (some ⟨g.blk, 0, none⟩) :: V' ∧ TRep w S T V' L acc fin
    | .agg k => ∃ cs V', V = .agg cs :: V' ∧ cs.size = k ∧ TRep w S T (cs.toList ++ V') L acc fin
    | .clo fn k => ∃ cs V', V = .func fn #[] cs :: V' ∧ cs.size = k ∧ TRep w S T (cs.toList ++ V') L acc fin
    | .mapt kag ks z => ∃ g es clk V' L', V = .map (some g.blk) :: V' ∧ L = .list 3 es :: .int .i64 clk :: L' ∧ g.nil = false ∧ MRep w S g kag ks z es clk ∧ TRep w S T V' L' (acc ++ [(g, (none, some (.m kag ks z)))]) fin
    | t => ∃ v V' x L', V = v :: V' ∧ L = x :: L' ∧ leafT t x ∧ FRep w S x v ∧ TRep w S T V' L' acc fin

/-- names of what is owned -/
structure IdsOk (M : Mem) (ids : List (Option Nat)) : Prop where
  live : ∀ (j id : Nat), ids[j]? = some (some id) → ∃ e, hdOf M id = some e ∧ ((∃ s xs, e = .vec s xs) ∨ (∃ n, e = .obj n) ∨ ∃ kag ks z, e = .mapH kag ks z)
  inj : ∀ (i j id : Nat), ids[i]? = some (some id) → ids[j]? = some (some id) → i = j

/-- where what has this name lies -/
def GRel (γ : Nat → Gh) (M : Mem) : Option Nat → Gh × Sh → Prop
  | none, x => x.1 = ⟨0, 0, 0, true⟩ ∧ x.2.2 = none
  | some id, x => x.1 = γ id ∧ ∃ e, hdOf M id = some e ∧ x.2 = (e.row, e.ob)

theorem isFn_one {v : Value} (h : isFn v = true) : v.oneCell' = true := by
  unfold isFn at h
  split at h
  · rfl
  · cases h

theorem notIn_spec {id : Nat} : ∀ {acc : List (Option Nat)}, notIn id acc = true → some id ∉ acc
  | [], _ => by simp
  | none :: r, h => by simpa using notIn_spec (acc := r) (by simpa [notIn] using h)
  | some j :: r, h => by
    simp only [notIn, Bool.and_eq_true, Bool.not_eq_true'] at h
    have h1 : j ≠ id := fun e => by subst e; simp at h
    simpa [Ne.symm h1] using notIn_spec h.2

theorem apartB_spec {acc : List (Option Nat)} : ∀ {fz : List (Key × Ent)}, apartB acc fz = true → ∀ id e, (Key.head id, e) ∈ fz → some id ∉ acc
  | [], _, id, e, h => by simp at h
  | (.head i, e') :: r, h, id, e, hm => by
    simp only [apartB, Bool.and_eq_true] at h
    rcases List.mem_cons.1 hm with h1 | h1
    · cases h1; exact notIn_spec h.1
    · exact apartB_spec h.2 id e h1
  | (.slot _, _) :: _, h, _, _, _ => by simp [apartB] at h
  | (.cell _ _, _) :: _, h, _, _, _ => by simp [apartB] at h

theorem IdsOk.add {M : Mem} {ids : List (Option Nat)} (h : IdsOk M ids) {id : Nat} {e : Ent} (he : hdOf M id = some e) (hk : (∃ s xs, e = .vec s xs) ∨ (∃ n, e = .obj n) ∨ ∃ kag ks z, e = .mapH kag ks z) (hn : notIn id ids = true) : IdsOk M (ids ++ [some id]) := by
  have hx := notIn_spec hn
  have key : ∀ (j i : Nat), (ids ++ [some id])[j]? = some (some i) → (j < ids.length ∧ ids[j]? = some (some i)) ∨ (j = ids.length ∧ i = id) := fun j i hj => by
    rw [List.getElem?_append] at hj
    split at hj
    · rename_i hlt; exact .inl ⟨hlt, hj⟩
    · rename_i hlt
      have := (List.getElem?_eq_some_iff.1 hj).1
      simp at this
      have h0 : j - ids.length = 0 := by omega
      rw [h0] at hj
      simp at hj
      exact .inr ⟨by omega, hj.symm⟩
  refine ⟨fun j i hj => ?_, fun j1 j2 i h1 h2 => ?_⟩
  · rcases key j i hj with ⟨_, hj⟩ | ⟨_, rfl⟩
    · exact h.live j i hj
    · exact ⟨e, he, hk⟩
  · rcases key j1 i h1 with ⟨_, h1⟩ | ⟨q1, rfl⟩ <;> rcases key j2 i h2 with ⟨_, h2⟩ | ⟨q2, q⟩
    · exact h.inj j1 j2 i h1 h2
    · subst q; exact absurd (List.mem_of_getElem? (by assumption : ids[j1]? = some (some _))) hx
    · exact absurd (List.mem_of_getElem? (by assumption : ids[j2]? = some (some _))) hx
    · omega

theorem IdsOk.addNone {M : Mem} {ids : List (Option Nat)} (h : IdsOk M ids) : IdsOk M (ids ++ [none]) := by
  have key : ∀ (j i : Nat), (ids ++ [none])[j]? = some (some i) → ids[j]? = some (some i) := fun j i hj => by
    rw [List.getElem?_append] at hj
    split at hj
    · exact hj
    · have := (List.getElem?_eq_some_iff.1 hj).1
      simp at this
      rename_i hlt
      have h0 : j - ids.length = 0 := by omega
      rw [h0] at hj
      simp at hj
  exact ⟨fun j i hj => h.live j i (key j i hj), fun j1 j2 i h1 h2 => h.inj j1 j2 i (key _ _ h1) (key _ _ h2)⟩

section
variable {E : Env} {call : FuncId → List FV → Res} {X : Cx} {M : Mem} {a : Act} {w : World} {γ : Nat → Gh} {S : Nat → Prop} {us : List (Key × Ent)} {o : Oper}

theorem lstOf_some {sz : Nat} {x : FV} {xs : List FV} (h : lstOf sz x = some xs) {v : Value} (hv : FRep w S x v) : FRep w S (.list sz xs) v := by
  unfold lstOf at h
  split at h
  · rename_i s ys
    by_cases hb : Nat.beq s sz = true
    · have := Nat.eq_of_beq_eq_true hb
      subst this
      rw [hb] at h; simp at h; subst h; exact hv
    · have hb' : Nat.beq s sz = false := Bool.eq_false_iff.2 hb
      rw [hb'] at h
      simp only [cond_false] at h
      split at h
      · cases h
        obtain ⟨a, cap, b, o, rfl, _⟩ := FRep.list_iff.1 hv
        exact nil_list
      · simp at h
  · simp at h

theorem get_miss {k : Key} : ∀ {us : List (Key × Ent)}, (∀ e, (k, e) ∉ us) → Mem.get k us = none
  | [], _ => rfl
  | (k', e) :: r, h => by
    rw [Mem.get_cons, if_neg (fun q => h e (by rw [q]; exact List.mem_cons_self))]
    exact get_miss fun e he => h e (List.mem_cons_of_mem _ he)

theorem gets_ext (h : Rel X M a w γ S) : ∀ {T : List Tok} {svs : List SV} {vs : List Value} {acc : List (Option Nat)} {fz : List (Key × Ent)} {f : List FV → List (Option Nat) → List (Key × Ent) → RT} {accG : GA},
    All2 (SRep w S γ (hdOf M)) svs vs → IdsOk M acc → All2 (GRel γ M) acc accG → FzList M fz → Gets (ext T svs acc fz f) M us →
    ∃ L ids fz' G, All2 (GRel γ M) ids G ∧ FzList M fz' ∧ (∀ p, p ∈ fz → p ∈ fz') ∧ apartB ids fz' = true ∧ IdsOk M ids ∧ (∃ r, ids = acc ++ r) ∧ Gets (f L ids fz') M us ∧
      ∀ S', (∀ b, S b → S' b) → Rel X (fz' ++ M) a w γ S' → TRep w S' T vs L accG G
  | [], [], vs, acc, fz, f, accG, hs, hi, hG, hf, hg => by
    unfold ext at hg
    obtain ⟨hb, hg⟩ := gets_bif hg
    cases hs
    exact ⟨[], acc, fz, accG, hG, hf, fun p h => h, hb, hi, ⟨[], by simp⟩, hg, fun S' _ _ => ⟨rfl, rfl, rfl⟩⟩
  | [], s :: svs, vs, acc, fz, f, accG, hs, hi, hG, hf, hg => by unfold ext at hg; exact (gets_fail hg).elim
  | t :: T, [], vs, acc, fz, f, accG, hs, hi, hG, hf, hg => by unfold ext at hg; exact (gets_fail hg).elim
  | t :: T, s :: svs, _, acc, fz, f, accG, .cons (y := v) (ys := vs) hv hs, hi, hG, hf, hg => by
    unfold ext at hg
    -- a leaf
    have leaf : ∀ {x : FV} {fz1 : List (Key × Ent)}, (∀ S', TRep w S' (t :: T) = fun V L acc fin => ∃ v V' x L', V = v :: V' ∧ L = x :: L' ∧ leafT t x ∧ FRep w S' x v ∧ TRep w S' T V' L' acc fin) → leafT t x →
        FzList M fz1 → (∀ p, p ∈ fz → p ∈ fz1) → (∀ fz' S', FzList M fz' → (∀ p, p ∈ fz1 → p ∈ fz') → (∀ b, S b → S' b) → Rel X (fz' ++ M) a w γ S' → FRep w S' x v) → Gets (ext T svs acc fz1 fun L ids us => f (x :: L) ids us) M us →
        ∃ L ids fz' G, All2 (GRel γ M) ids G ∧ FzList M fz' ∧ (∀ p, p ∈ fz → p ∈ fz') ∧ apartB ids fz' = true ∧ IdsOk M ids ∧ (∃ r, ids = acc ++ r) ∧ Gets (f L ids fz') M us ∧
          ∀ S', (∀ b, S b → S' b) → Rel X (fz' ++ M) a w γ S' → TRep w S' (t :: T) (v :: vs) L accG G := by
      intro x fz1 ht hl hf1 hsub hrep hg1
      obtain ⟨L, ids, fz', G, h0, h1, h2, h3, h4, h5, h6, h7⟩ := gets_ext h hs hi hG hf1 hg1
      refine ⟨x :: L, ids, fz', G, h0, h1, fun p hp => h2 p (hsub p hp), h3, h4, h5, h6, fun S' hS hR => ?_⟩
      rw [ht]
      exact ⟨v, vs, x, L, rfl, rfl, hl, hrep fz' S' h1 h2 hS hR, h7 S' hS hR⟩
    split at hg
    · rename_i k
      split at hg
      · rename_i k' n
        obtain ⟨hb, hg1⟩ := gets_bif hg
        clear hg
        obtain rfl := kindEq_iff.1 hb
        refine leaf (x := .int k n) (fun _ => rfl) rfl hf (fun p h => h) (fun fz' S' _ _ hS hR => ?_) hg1
        rw [hv.int_inv]; exact .int _ _
      · exact (gets_fail hg).elim
    · split at hg
      · rename_i b
        refine leaf (x := .bool b) (fun _ => rfl) trivial hf (fun p h => h) (fun fz' S' _ _ hS hR => ?_) hg
        rw [hv.bool_inv]; exact .bool _
      · exact (gets_fail hg).elim
    · split at hg
      · rename_i b
        refine leaf (x := .str b) (fun _ => rfl) trivial hf (fun p h => h) (fun fz' S' _ _ hS hR => ?_) hg
        rw [hv.str_inv]; exact .str _
      · exact (gets_fail hg).elim
    · rename_i sz
      split at hg
      · refine leaf (x := .list sz []) (fun _ => rfl) rfl hf (fun p h => h) (fun fz' S' _ _ hS hR => ?_) hg
        rw [hv.nilS_inv]; exact nil_list
      · rename_i x
        split at hg
        · rename_i xs hx
          refine leaf (x := .list sz xs) (fun _ => rfl) rfl hf (fun p h => h) (fun fz' S' _ _ hS hR => ?_) hg
          cases hv with
          | fv hr => exact lstOf_some hx (hr.mono (fun _ _ => rfl) hS)
          | tomb hs _ => simp [SV.refId] at hs
        · exact (gets_fail hg).elim
      · rename_i id view
        obtain ⟨e, he, hg⟩ := gets_rdHead hg
        have go : ∀ (s : Nat) (xs : List FV), (hdOf M id = some (.vec s xs) ∨ hdOf M id = some (.frz s xs)) → Nat.beq s sz = true → Gets (match (generalizing := false) view with
            | none => ext T svs acc ((.head id, .frz s xs) :: fz) fun L ids us => f (.list sz xs :: L) ids us
            | some (o, n) => ext T svs acc ((.head id, .frz s xs) :: fz) fun L ids us => f (.list sz ((xs.drop o).take n) :: L) ids us) M us →
            ∃ L ids fz' G, All2 (GRel γ M) ids G ∧ FzList M fz' ∧ (∀ p, p ∈ fz → p ∈ fz') ∧ apartB ids fz' = true ∧ IdsOk M ids ∧ (∃ r, ids = acc ++ r) ∧ Gets (f L ids fz') M us ∧
              ∀ S', (∀ b, S b → S' b) → Rel X (fz' ++ M) a w γ S' → TRep w S' (.lst sz :: T) (v :: vs) L accG G := by
          clear hg
          intro s xs hh hb hg1
          have := Nat.eq_of_beq_eq_true hb
          subst this
          split at hg1
          · refine leaf (x := .list s xs) (fun _ => rfl) rfl (hf.cons hh) (fun p h => List.mem_cons_of_mem _ h) (fun fz' S' hfz hsub hS hR => ?_) hg1
            exact ((FzOk.sl (M := M) (hsub _ List.mem_cons_self)).rep hfz hR (hv.mono (fun _ _ => rfl) hS hfz.hdLe)).1
          · rename_i o n
            refine leaf (x := .list s ((xs.drop o).take n)) (fun _ => rfl) rfl (hf.cons hh) (fun p h => List.mem_cons_of_mem _ h) (fun fz' S' hfz hsub hS hR => ?_) hg1
            exact ((FzOk.view (M := M) (hsub _ List.mem_cons_self)).rep hfz hR (hv.mono (fun _ _ => rfl) hS hfz.hdLe)).1
        split at hg
        · obtain ⟨hb, hg⟩ := gets_bif hg
          exact go _ _ (.inl he) hb hg
        · obtain ⟨hb, hg⟩ := gets_bif hg
          exact go _ _ (.inr he) hb hg
        · exact (gets_fail hg).elim
      · exact (gets_fail hg).elim
    · rename_i u
      split at hg
      · rename_i u'
        obtain ⟨hb, hg1⟩ := gets_bif hg
        clear hg
        obtain ⟨rfl, h1⟩ := rawOk_eq hb
        refine leaf (x := .raw u) (fun _ => rfl) ⟨rfl, h1⟩ hf (fun p h => h) (fun fz' S' _ _ hS hR => ?_) hg1
        rw [hv.raw_inv]; exact .raw _
      · exact (gets_fail hg).elim
    · split at hg
      · rename_i u'
        obtain ⟨hb, hg1⟩ := gets_bif hg
        clear hg
        refine leaf (x := .raw u') (fun _ => rfl) (isFn_one hb) hf (fun p h => h) (fun fz' S' _ _ hS hR => ?_) hg1
        rw [hv.raw_inv]; exact .raw _
      · exact (gets_fail hg).elim
    · obtain ⟨L, ids, fz', G, h0, h1, h2, h3, h4, h5, h6, h7⟩ := gets_ext h hs hi hG hf hg
      exact ⟨L, ids, fz', G, h0, h1, h2, h3, h4, h5, h6, fun S' hS hR => ⟨v, vs, rfl, h7 S' hS hR⟩⟩
    · rename_i sz
      split at hg
      · obtain ⟨L, ids, fz', G, h0, h1, h2, h3, h4, ⟨r, h5⟩, h6, h7⟩ := gets_ext h hs hi.addNone (hG.app (.cons (y := (⟨0, 0, 0, true⟩, (some (sz, 0), none))) ⟨rfl, rfl⟩ .nil)) hf hg
        refine ⟨.list sz [] :: L, ids, fz', G, h0, h1, h2, h3, h4, ⟨_, by rw [h5, List.append_assoc]⟩, h6, fun S' hS hR => ?_⟩
        refine ⟨⟨0, 0, 0, true⟩, [], vs, L, by rw [hv.nilS_inv]; rfl, rfl, ⟨Nat.le_refl _, by simp⟩, ?_⟩
        exact h7 S' hS hR
      · rename_i id
        obtain ⟨e, he, hg⟩ := gets_rdHead hg
        split at hg
        · rename_i s xs
          obtain ⟨hb, hg⟩ := gets_bif hg
          simp only [Bool.and_eq_true] at hb
          have := Nat.eq_of_beq_eq_true hb.1
          subst this
          obtain ⟨L, ids, fz', G, h0, h1, h2, h3, h4, ⟨r, h5⟩, h6, h7⟩ := gets_ext h hs (hi.add he (.inl ⟨_, _, rfl⟩) hb.2) (hG.app (.cons (y := (γ id, (some (s, xs.length), none))) ⟨rfl, _, he, rfl⟩ .nil)) hf hg
          refine ⟨.list s xs :: L, ids, fz', G, h0, h1, h2, h3, h4, ⟨_, by rw [h5, List.append_assoc]⟩, h6, fun S' hS hR => ?_⟩
          have hid : some id ∈ ids := by rw [h5]; simp
          have hhd : hdOf (fz' ++ M) id = some (.vec s xs) := by
            rw [hdOf, Mem.get_append, get_miss (fun e he' => apartB_spec h3 id e he' hid)]
            rw [Option.none_or]; exact he
          refine ⟨γ id, xs, vs, L, ?_, rfl, ?_, ?_⟩
          · rcases hv.sl_inv he rfl with ⟨_, q⟩ | ⟨_, _, _, _, q, _⟩
            · rw [q]
            · cases q
          · exact hR.head id _ hhd
          · exact h7 S' hS hR
        · exact (gets_fail hg).elim
      · exact (gets_fail hg).elim
    · rename_i k
      split at hg
      · rename_i id
        obtain ⟨e, he, hg⟩ := gets_rdHead hg
        split at hg
        · rename_i n
          obtain ⟨hb, hg⟩ := gets_bif hg
          simp only [Bool.and_eq_true] at hb
          have := Nat.eq_of_beq_eq_true hb.1
          subst this
          obtain ⟨cs, c1, c2, hg1⟩ := gets_rdCells hg
          obtain ⟨hn, vals, te, hb1, hsz, hc⟩ := h.head id _ he
          have hcs : All2 (SRep w S γ (hdOf M)) cs vals.toList := .ofArr (by rw [hsz, c1]) fun j s hj => by
            have hj' : j < n := by rw [← c1]; exact (List.getElem?_eq_some_iff.1 hj).1
            have q2 := c2 j s hj
            obtain ⟨s2, q3, q4, q5⟩ := hc j hj'
            rw [Nat.zero_add, q3] at q2; cases q2
            exact q5
          obtain ⟨L, ids, fz', G, h0, h1, h2, h3, h4, ⟨r, h5⟩, h6, h7⟩ := gets_ext h (hcs.app hs) (hi.add he (.inr (.inl ⟨_, rfl⟩)) hb.2) (hG.app (.cons (y := (γ id, (none, some (.n n)))) ⟨rfl, _, he, rfl⟩ .nil)) hf hg1
          refine ⟨L, ids, fz', G, h0, h1, h2, h3, h4, ⟨_, by rw [h5, List.append_assoc]⟩, h6, fun S' hS hR => ?_⟩
          refine ⟨γ id, vals, te, vs, by rw [hv.ptr_inv he], hn, hb1, hsz, ?_⟩
          exact h7 S' hS hR
        · exact (gets_fail hg).elim
      · exact (gets_fail hg).elim
    · rename_i j
      split at hg
      · rename_i id id' hacc
        obtain ⟨hb, hg1⟩ := gets_bif hg
        have := Nat.eq_of_beq_eq_true hb
        subst this
        obtain ⟨L, ids, fz', G, h0, h1, h2, h3, h4, h5, h6, h7⟩ := gets_ext h hs hi hG hf hg1
        refine ⟨L, ids, fz', G, h0, h1, h2, h3, h4, h5, h6, fun S' hS hR => ?_⟩
        obtain ⟨e, he, hk⟩ := hi.live j id hacc
        cases hv with
        | @ptr _ _ e' n h' he' =>
          obtain ⟨⟨g, sh⟩, q1, q2, e2, q3, q4⟩ := hG.get j _ hacc
          simp only at q2 q4
          subst q2
          rw [h'] at q3; cases q3
          rw [he'] at q4
          have hob : e' = .obj n := by cases e' <;> simp [Ent.ob] at he' <;> (subst he'; rfl)
          subst hob
          exact ⟨γ id, (Ent.obj n).row, n, vs, by rw [q1, q4], (h.head id _ h').1, rfl, h7 S' hS hR⟩
        | tomb hs h' =>
          simp [SV.refId] at hs
          subst hs
          rw [he] at h'
          cases h'
          rcases hk with ⟨_, _, q⟩ | ⟨_, q⟩ | ⟨_, _, _, q⟩ <;> cases q
      · exact (gets_fail hg).elim
    · rename_i k
      split at hg
      · rename_i cs
        obtain ⟨hb, hg1⟩ := gets_bif hg
        have := Nat.eq_of_beq_eq_true hb
        subst this
        obtain ⟨ws, rfl, hl, hr⟩ := hv.agg_inv
        obtain ⟨L, ids, fz', G, h0, h1, h2, h3, h4, h5, h6, h7⟩ := gets_ext h ((All2.ofArr hl hr).app hs) hi hG hf hg1
        exact ⟨L, ids, fz', G, h0, h1, h2, h3, h4, h5, h6, fun S' hS hR => ⟨ws, vs, rfl, hl, h7 S' hS hR⟩⟩
      · exact (gets_fail hg).elim
    · rename_i fn k
      split at hg
      · rename_i g g' cs
        obtain ⟨hb, hg1⟩ := gets_bif hg
        simp only [Bool.and_eq_true] at hb
        have e1 := Nat.eq_of_beq_eq_true hb.1
        have e2 := Nat.eq_of_beq_eq_true hb.2
        subst e1; subst e2
        obtain ⟨fs, ws, rfl, hl1, hl2, _, hr⟩ := hv.clo_inv
        obtain ⟨L, ids, fz', G, h0, h1, h2, h3, h4, h5, h6, h7⟩ := gets_ext h ((All2.ofArr hl2 hr).app hs) hi hG hf hg1
        refine ⟨L, ids, fz', G, h0, h1, h2, h3, h4, h5, h6, fun S' hS hR => ⟨ws, vs, ?_, hl2, h7 S' hS hR⟩⟩
        have : fs = #[] := by apply Array.ext'; simpa using hl1
        rw [this]
      · exact (gets_fail hg).elim
    · rename_i kag ks z
      split at hg
      · rename_i id
        obtain ⟨e, he, hg⟩ := gets_rdHead hg
        split at hg
        · rename_i kag' ks' z'
          obtain ⟨hb, hg1⟩ := gets_bif hg
          simp only [Bool.and_eq_true] at hb
          obtain ⟨q1, q2, q3⟩ := mkEq_eq hb.1
          subst q1; subst q2; subst q3
          obtain ⟨e0, he0, hg2⟩ := gets_rd hg1
          clear hg hg1
          split at hg2
          · rename_i es clk
            obtain ⟨L, ids, fz', G, h0, h1, h2, h3, h4, ⟨r, h5⟩, h6, h7⟩ := gets_ext h hs (hi.add he (.inr (.inr ⟨_, _, _, rfl⟩)) hb.2) (hG.app (.cons (y := (γ id, (none, some (.m kag ks z)))) ⟨rfl, _, he, rfl⟩ .nil)) hf hg2
            refine ⟨.list 3 es :: .int .i64 clk :: L, ids, fz', G, h0, h1, h2, h3, h4, ⟨_, by rw [h5, List.append_assoc]⟩, h6, fun S' hS hR => ?_⟩
            obtain ⟨m1, m2⟩ := h1.mapH he
            obtain ⟨hn, es1, clk1, es', clk', d0, _, _, hm⟩ := hR.head id _ m1
            rw [m2 0, he0] at d0; cases d0
            exact ⟨γ id, es, clk, vs, L, by rw [hv.mp_inv he], rfl, hn, hm, h7 S' hS hR⟩
          · exact (gets_fail hg2).elim
        · exact (gets_fail hg).elim
      · exact (gets_fail hg).elim
  termination_by T => T.length

end
end Rf
