/- What is built again of leaves, under names. -/
import Derived.Test.YtebaohjeodeaoaaGreatDoorRf17
namespace Rf
open Go

def NInj (nm : List Nat) : Prop := ∀ (i j id : Nat), nm[i]? = some id → nm[j]? = some id → i = j

theorem mem_wrCells {id : Nat} {p : Key × Ent} : ∀ {off : Nat} {vs : List SV}, p ∈ wrCells id off vs → ∃ j s, vs[j]? = some s ∧ p = (.cell id (off + j), .sv s)
  | off, [], h => by simp [wrCells] at h
  | off, v :: vs, h => by
    rw [wrCells] at h
    rcases List.mem_cons.1 h with rfl | h
    · exact ⟨0, v, rfl, rfl⟩
    · obtain ⟨j, s, h1, h2⟩ := mem_wrCells h
      exact ⟨j + 1, s, by simpa using h1, by rw [h2]; congr 2; omega⟩

def KeyOf (id : Nat) (k : Key) : Prop := k = .head id ∨ ∃ o, k = .cell id o

theorem KeyOf.inj {i j : Nat} {k : Key} (h : KeyOf i k) (h' : KeyOf j k) : i = j := by
  rcases h with rfl | ⟨o, rfl⟩ <;> rcases h' with h' | ⟨o', h'⟩ <;> cases h' <;> rfl

theorem bld_keys {nm : List Nat} (hn : NInj nm) : ∀ {T : List Tok} {j : Nat} {L : List FV} {us : List (Key × Ent)} {svs : List SV} {r : List FV}, bld nm j T L = some (us, svs, r) →
    (∀ p, p ∈ us → ∃ i id, j ≤ i ∧ nm[i]? = some id ∧ KeyOf id p.1) ∧ ∀ p, p ∈ us → Mem.get p.1 us = some p.2
  | [], j, L, us, svs, r, h => by
    simp only [bld, Option.some.injEq, Prod.mk.injEq] at h
    obtain ⟨rfl, _⟩ := h
    exact ⟨fun p hp => by simp at hp, fun p hp => by simp at hp⟩
  | t :: T, j, L, us, svs, r, h => by
    unfold bld at h
    have leaf : ∀ {L' : List FV} {x : SV}, (match bld nm j T L' with | some (us, vs, r) => some (us, x :: vs, r) | none => none) = some (us, svs, r) →
        (∀ p, p ∈ us → ∃ i id, j ≤ i ∧ nm[i]? = some id ∧ KeyOf id p.1) ∧ ∀ p, p ∈ us → Mem.get p.1 us = some p.2 := by
      intro L' x h1
      split at h1
      · rename_i us' vs' r' he
        cases h1
        exact bld_keys hn he
      · simp at h1
    have leaf' : ∀ {L' : List FV} {g : List SV → List SV}, (match bld nm j T L' with | some (us, vs, r) => some (us, g vs, r) | none => none) = some (us, svs, r) →
        (∀ p, p ∈ us → ∃ i id, j ≤ i ∧ nm[i]? = some id ∧ KeyOf id p.1) ∧ ∀ p, p ∈ us → Mem.get p.1 us = some p.2 := by
      intro L' x h1
      split at h1
      · rename_i us' vs' r' he
        cases h1
        exact bld_keys hn he
      · simp at h1
    split at h
    · split at h
      · exact leaf h
      · simp at h
    · split at h
      · exact leaf h
      · simp at h
    · split at h
      · exact leaf h
      · simp at h
    · split at h
      · exact leaf h
      · simp at h
    · split at h
      · exact leaf h
      · simp at h
    · split at h
      · exact leaf h
      · simp at h
    · exact leaf h
    · split at h
      · rename_i sz xs L' id hid
        split at h
        · rename_i us' vs' r' he
          cases h
          obtain ⟨k1, k2⟩ := bld_keys hn he
          refine ⟨fun p hp => ?_, fun p hp => ?_⟩
          · rcases List.mem_cons.1 hp with rfl | hp
            · exact ⟨j, id, Nat.le_refl _, hid, .inl rfl⟩
            · obtain ⟨i, id', q1, q2, q3⟩ := k1 p hp
              exact ⟨i, id', by omega, q2, q3⟩
          · rcases List.mem_cons.1 hp with rfl | hp
            · rw [Mem.get_cons, if_pos rfl]
            · obtain ⟨i, id', q1, q2, q3⟩ := k1 p hp
              rw [Mem.get_cons, if_neg, k2 p hp]
              intro q
              have := KeyOf.inj q3 (.inl q)
              subst this
              have := hn i j _ q2 hid
              omega
        · simp at h
      · simp at h
    · rename_i k
      split at h
      · rename_i id hid
        split at h
        · rename_i us' vs' r' he
          cases h
          obtain ⟨k1, k2⟩ := bld_keys hn he
          have hne : ∀ p, p ∈ us' → ¬ KeyOf id p.1 := fun p hp q => by
            obtain ⟨i, id', q1, q2, q3⟩ := k1 p hp
            have := KeyOf.inj q3 q
            subst this
            have := hn i j _ q2 hid
            omega
          refine ⟨fun p hp => ?_, fun p hp => ?_⟩
          · rcases List.mem_cons.1 hp with rfl | hp
            · exact ⟨j, id, Nat.le_refl _, hid, .inl rfl⟩
            · rcases List.mem_append.1 hp with hp | hp
              · obtain ⟨o, s, _, rfl⟩ := mem_wrCells hp
                exact ⟨j, id, Nat.le_refl _, hid, .inr ⟨_, rfl⟩⟩
              · obtain ⟨i, id', q1, q2, q3⟩ := k1 p hp
                exact ⟨i, id', by omega, q2, q3⟩
          · rcases List.mem_cons.1 hp with rfl | hp
            · rw [Mem.get_cons, if_pos rfl]
            · rcases List.mem_append.1 hp with hp | hp
              · obtain ⟨o, s, q1, rfl⟩ := mem_wrCells hp
                rw [Mem.get_cons, if_neg (by simp), Mem.get_append, get_wrC]
                have := (List.getElem?_eq_some_iff.1 q1).1
                rw [if_pos ⟨rfl, by omega, by omega⟩]
                simp only [Nat.zero_add, Nat.sub_zero]
                rw [q1]; rfl
              · have hk := hne p hp
                rw [Mem.get_cons, if_neg (fun q => hk (.inl q)), Mem.get_append]
                have : Mem.get p.1 (wrCells id 0 (vs'.take k)) = none := by
                  apply get_miss
                  intro e hm
                  obtain ⟨o, s, _, q⟩ := mem_wrCells hm
                  exact hk (.inr ⟨_, congrArg Prod.fst q⟩)
                rw [this, k2 p hp]; rfl
        · simp at h
      · simp at h
    · split at h
      · exact leaf h
      · simp at h
    · rename_i k
      exact leaf' (g := fun vs => .agg (vs.take k) :: vs.drop k) h
    · rename_i fn k
      exact leaf' (g := fun vs => .clo fn [] (vs.take k) :: vs.drop k) h
    · rename_i kag ks z
      split at h
      · rename_i sz es k clk L' id hid
        split at h
        · rename_i us' vs' r' he
          cases h
          obtain ⟨k1, k2⟩ := bld_keys hn he
          have hne : ∀ p, p ∈ us' → ¬ KeyOf id p.1 := fun p hp q => by
            obtain ⟨i, id', q1, q2, q3⟩ := k1 p hp
            have := KeyOf.inj q3 q
            subst this
            have := hn i j _ q2 hid
            omega
          refine ⟨fun p hp => ?_, fun p hp => ?_⟩
          · rcases List.mem_cons.1 hp with rfl | hp
            · exact ⟨j, id, Nat.le_refl _, hid, .inl rfl⟩
            rcases List.mem_cons.1 hp with rfl | hp
            · exact ⟨j, id, Nat.le_refl _, hid, .inr ⟨_, rfl⟩⟩
            rcases List.mem_cons.1 hp with rfl | hp
            · exact ⟨j, id, Nat.le_refl _, hid, .inr ⟨_, rfl⟩⟩
            · obtain ⟨i, id', q1, q2, q3⟩ := k1 p hp
              exact ⟨i, id', by omega, q2, q3⟩
          · rcases List.mem_cons.1 hp with rfl | hp
            · rw [Mem.get_cons, if_pos rfl]
            rcases List.mem_cons.1 hp with rfl | hp
            · rw [Mem.get_cons, if_neg (by simp), Mem.get_cons, if_pos rfl]
            rcases List.mem_cons.1 hp with rfl | hp
            · rw [Mem.get_cons, if_neg (by simp), Mem.get_cons, if_neg (by simp), Mem.get_cons, if_pos rfl]
            · have hk := hne p hp
              rw [Mem.get_cons, if_neg (fun q => hk (.inl q)), Mem.get_cons, if_neg (fun q => hk (.inr ⟨_, q⟩)), Mem.get_cons, if_neg (fun q => hk (.inr ⟨_, q⟩)), k2 p hp]
        · simp at h
      · simp at h

theorem TRep.pre {w : World} {S : Nat → Prop} : ∀ {T : List Tok} {V : List Value} {L : List FV} {acc fin : GA}, TRep w S T V L acc fin → ∃ r, fin = acc ++ r
  | [], V, L, acc, fin, h => ⟨[], by rw [h.2.2]; simp⟩
  | t :: T, V, L, acc, fin, h => by
    cases t with
    | skip => obtain ⟨v, V', _, h⟩ := h; exact h.pre
    | own sz => obtain ⟨g, xs, V', L', _, _, _, h⟩ := h; obtain ⟨r, hr⟩ := h.pre; exact ⟨_, by rw [hr, List.append_assoc]⟩
    | obj k => obtain ⟨g, vals, e, V', _, _, _, _, h⟩ := h; obtain ⟨r, hr⟩ := h.pre; exact ⟨_, by rw [hr, List.append_assoc]⟩
    | ref j => obtain ⟨g, r, k, V', _, _, _, h⟩ := h; exact h.pre
    | agg k => obtain ⟨cs, V', _, _, h⟩ := h; exact h.pre
    | clo fn k => obtain ⟨cs, V', _, _, h⟩ := h; exact h.pre
    | mapt kag ks z => obtain ⟨g, es, clk, V', L', _, _, _, _, h⟩ := h; obtain ⟨r, hr⟩ := h.pre; exact ⟨_, by rw [hr, List.append_assoc]⟩
    | _ => obtain ⟨v, V', x, L', _, _, _, _, h⟩ := h; exact h.pre
  termination_by T => T.length

theorem flat_nested {n : Nat} {t : Tok} {T : List Tok} (h : flatOk n (t :: T) = true) : (n = 0 ∨ ((∀ k, t ≠ .agg k) ∧ t ≠ .skip)) ∧
    (t ≠ .skip → (∀ k, t ≠ .agg k) → (∀ fn k, t ≠ .clo fn k) → ∀ k, t = .obj k → flatOk (n - 1 + k) T = true) ∧ (arity t = 0 → flatOk (n - 1) T = true) ∧ (∀ fn k, t = .clo fn k → ∃ m, n - 1 ≤ m - (if n = 0 then 0 else k) ∧ flatOk m T = true ∧ (n ≠ 0 → m = n - 1 + k)) ∧ (∀ k, t = .agg k → n = 0 ∧ flatOk 0 T = true) := by
  cases n with
  | zero =>
    refine ⟨.inl rfl, fun _ _ _ k hk => ?_, fun ha => ?_, fun fn k hk => ?_, fun k hk => ?_⟩
    · subst hk; simpa [flatOk] using h
    · cases t <;> first | (simpa [flatOk] using h) | (simp only [arity] at ha; subst ha; simpa [flatOk] using h)
    · subst hk; exact ⟨0, by simp, by simpa [flatOk] using h, fun h => absurd rfl h⟩
    · subst hk; exact ⟨rfl, by simpa [flatOk] using h⟩
  | succ n =>
    refine ⟨.inr ⟨fun k hk => by subst hk; simp [flatOk] at h, fun hk => by subst hk; simp [flatOk] at h⟩, fun _ _ _ k hk => ?_, fun ha => ?_, fun fn k hk => ?_, fun k hk => ?_⟩
    · subst hk; simpa [flatOk, arity] using h
    · cases t <;> first | (simp [flatOk] at h; done) | (simpa [flatOk, arity] using h) | (simp only [arity] at ha; subst ha; simpa [flatOk, arity] using h)
    · subst hk; refine ⟨n + k, by simp, by simpa [flatOk, arity] using h, fun _ => rfl⟩
    · subst hk; simp [flatOk] at h

section
variable {w : World} {S : Nat → Prop}

theorem drop_flat {svs : List SV} {n k : Nat} (h : ∀ (i : Nat) (s : SV), i < n + k → svs[i]? = some s → s.flat = true) : ∀ (i : Nat) (s : SV), i < n → (svs.drop k)[i]? = some s → s.flat = true := fun i s hi hs => by
  rw [List.getElem?_drop] at hs
  exact h (k + i) s (by omega) hs

theorem cons_flat {svs : List SV} {n : Nat} {x : SV} (hx : n = 0 ∨ x.flat = true) (h : ∀ (i : Nat) (s : SV), i < n - 1 → svs[i]? = some s → s.flat = true) : ∀ (i : Nat) (s : SV), i < n → (x :: svs)[i]? = some s → s.flat = true := fun i s hi hs => by
  cases i with
  | zero =>
    simp at hs; subst hs
    rcases hx with hx | hx
    · omega
    · exact hx
  | succ i => exact h i s (by omega) (by simpa using hs)

theorem leafT_flat {t : Tok} {x : FV} (h : leafT t x) : x.flat = true := by
  cases t <;> cases x <;> simp_all [leafT, FV.flat]

theorem bld_ok {nm : List Nat} {M' : Mem} {γ' : Nat → Gh} : ∀ {T : List Tok} {V : List Value} {L : List FV} {acc fin : GA} {us : List (Key × Ent)} {svs : List SV} {r : List FV} {n : Nat},
    TRep w S T V L acc fin → bld nm acc.length T L = some (us, svs, r) → (∀ p, p ∈ us → Mem.get p.1 M' = some p.2) → (∀ (i : Nat) (g : Gh) (k : Sh) (id : Nat), fin[i]? = some (g, k) → nm[i]? = some id → γ' id = g) →
    (∀ (i : Nat) (g : Gh) (q : Option (Nat × Nat)) (k : Nat), acc[i]? = some (g, (q, some (.n k))) → ∀ id, nm[i]? = some id → hdOf M' id = some (.obj k)) → flatOk n T = true →
    r = [] ∧ All2 (SRep w S γ' (hdOf M')) svs V ∧ (∀ (i : Nat) (s : SV), i < n → svs[i]? = some s → s.flat = true) ∧
      (∀ id e, (Key.head id, e) ∈ us → ORep w S γ' M' id e ∧ ∃ i g, acc.length ≤ i ∧ nm[i]? = some id ∧ fin[i]? = some (g, (e.row, e.ob)) ∧ ((∃ s xs, e = .vec s xs) ∨ (∃ n, e = .obj n) ∨ ∃ kag ks z, e = .mapH kag ks z)) ∧ ∀ (i : Nat) (x : Gh × Sh), acc.length ≤ i → fin[i]? = some x → ∃ id e, nm[i]? = some id ∧ (Key.head id, e) ∈ us
  | [], V, L, acc, fin, us, svs, r, n, h, hb, hu, hγ, hacc, hfl => by
    obtain ⟨rfl, rfl, rfl⟩ := h
    simp only [bld, Option.some.injEq, Prod.mk.injEq] at hb
    obtain ⟨rfl, rfl, rfl⟩ := hb
    exact ⟨rfl, .nil, fun i s _ h => by simp at h, fun id e h => by simp at h, fun i x h1 h2 => by have := (List.getElem?_eq_some_iff.1 h2).1; omega⟩
  | t :: T, V, L, acc, fin, us, svs, r, n, h, hb, hu, hγ, hacc, hfl => by
    obtain ⟨f1, f2, f3, f4, f5⟩ := flat_nested hfl
    have leaf : ∀ {v : Value} {V' : List Value} {L' : List FV} {x : SV}, V = v :: V' → TRep w S T V' L' acc fin → SRep w S γ' (hdOf M') x v → (n = 0 ∨ x.flat = true) → arity t = 0 →
        (match bld nm acc.length T L' with | some (us, vs, r) => some (us, x :: vs, r) | none => none) = some (us, svs, r) →
        r = [] ∧ All2 (SRep w S γ' (hdOf M')) svs V ∧ (∀ (i : Nat) (s : SV), i < n → svs[i]? = some s → s.flat = true) ∧
          (∀ id e, (Key.head id, e) ∈ us → ORep w S γ' M' id e ∧ ∃ i g, acc.length ≤ i ∧ nm[i]? = some id ∧ fin[i]? = some (g, (e.row, e.ob)) ∧ ((∃ s xs, e = .vec s xs) ∨ (∃ n, e = .obj n) ∨ ∃ kag ks z, e = .mapH kag ks z)) ∧ ∀ (i : Nat) (x : Gh × Sh), acc.length ≤ i → fin[i]? = some x → ∃ id e, nm[i]? = some id ∧ (Key.head id, e) ∈ us := by
      intro v V' L' x hV hT hx hxf ha h1
      subst hV
      split at h1
      · rename_i us' vs' r' he
        cases h1
        obtain ⟨k1, k2, k3, k4, k5⟩ := bld_ok hT he hu hγ hacc (f3 ha)
        exact ⟨k1, .cons hx k2, cons_flat hxf k3, k4, k5⟩
      · simp at h1
    have leafL : ∀ {v : Value} {V' : List Value} {x : FV} {L' : List FV}, V = v :: V' → L = x :: L' → TRep w S T V' L' acc fin → FRep w S x v → x.flat = true → arity t = 0 →
        (match (generalizing := false) L with | x :: L => (match bld nm acc.length T L with | some (us, vs, r) => some (us, SV.fv x :: vs, r) | none => none) | [] => none) = some (us, svs, r) →
        r = [] ∧ All2 (SRep w S γ' (hdOf M')) svs V ∧ (∀ (i : Nat) (s : SV), i < n → svs[i]? = some s → s.flat = true) ∧
          (∀ id e, (Key.head id, e) ∈ us → ORep w S γ' M' id e ∧ ∃ i g, acc.length ≤ i ∧ nm[i]? = some id ∧ fin[i]? = some (g, (e.row, e.ob)) ∧ ((∃ s xs, e = .vec s xs) ∨ (∃ n, e = .obj n) ∨ ∃ kag ks z, e = .mapH kag ks z)) ∧ ∀ (i : Nat) (x : Gh × Sh), acc.length ≤ i → fin[i]? = some x → ∃ id e, nm[i]? = some id ∧ (Key.head id, e) ∈ us := by
      intro v V' x L' hV hL hT hx hxf ha h1
      subst hL
      exact leaf hV hT (.fv hx) (.inr hxf) ha h1
    cases t with
    | int k => obtain ⟨v, V', x, L', h1, h2, h3, h4, h5⟩ := h; exact leafL h1 h2 h5 h4 (leafT_flat h3) rfl hb
    | bool => obtain ⟨v, V', x, L', h1, h2, h3, h4, h5⟩ := h; exact leafL h1 h2 h5 h4 (leafT_flat h3) rfl hb
    | str => obtain ⟨v, V', x, L', h1, h2, h3, h4, h5⟩ := h; exact leafL h1 h2 h5 h4 (leafT_flat h3) rfl hb
    | lst sz => obtain ⟨v, V', x, L', h1, h2, h3, h4, h5⟩ := h; exact leafL h1 h2 h5 h4 (leafT_flat h3) rfl hb
    | raw u => obtain ⟨v, V', x, L', h1, h2, h3, h4, h5⟩ := h; exact leafL h1 h2 h5 h4 (leafT_flat h3) rfl hb
    | fn => obtain ⟨v, V', x, L', h1, h2, h3, h4, h5⟩ := h; exact leafL h1 h2 h5 h4 (leafT_flat h3) rfl hb
    | skip =>
      obtain ⟨v, V', h1, h2⟩ := h
      exact leaf h1 h2 .dead (f1.imp id fun q => absurd rfl q.2) rfl hb
    | own sz =>
      obtain ⟨g, xs, V', L', rfl, rfl, hv, hT⟩ := h
      simp only [bld] at hb
      split at hb
      · rename_i s xs' L2 id hL hid
        cases hL
        split at hb
        · rename_i us' vs' r' he
          cases hb
          have hlen : (acc ++ [(g, ((some (sz, xs.length), none) : Sh))]).length = acc.length + 1 := by simp
          obtain ⟨rr, hrr⟩ := hT.pre
          have hfin : fin[acc.length]? = some (g, (some (sz, xs.length), none)) := by rw [hrr]; simp
          have hg : γ' id = g := hγ _ g _ id hfin hid
          have hh : hdOf M' id = some (.vec sz xs) := hu _ List.mem_cons_self
          obtain ⟨k1, k2, k3, k4, k5⟩ := bld_ok hT (by rw [hlen]; exact he) (fun p hp => hu p (List.mem_cons_of_mem _ hp)) hγ (fun i g' q' k hi => by
            rw [List.getElem?_append] at hi
            split at hi
            · exact hacc i g' q' k hi
            · rename_i hlt
              have h0 := (List.getElem?_eq_some_iff.1 hi).1
              simp at h0
              rw [show i - acc.length = 0 by omega] at hi
              simp at hi) (f3 rfl)
          refine ⟨k1, .cons ?_ k2, cons_flat (.inr rfl) k3, fun i e hm => ?_, fun i x hi1 hi2 => ?_⟩
          · have := SRep.sl (w := w) (S := S) (γ := γ') hh (sz := sz) (len := xs.length) rfl
            rwa [hg] at this
          · rcases List.mem_cons.1 hm with hm | hm
            · cases hm
              refine ⟨?_, acc.length, g, Nat.le_refl _, hid, hfin, .inl ⟨_, _, rfl⟩⟩
              show VRep w S (γ' id) sz xs
              rw [hg]; exact hv
            · obtain ⟨q1, i', g', q2, q3⟩ := k4 i e hm
              exact ⟨q1, i', g', by simp at q2; omega, q3⟩
          · by_cases hi3 : i = acc.length
            · subst hi3; exact ⟨id, _, hid, List.mem_cons_self⟩
            · obtain ⟨id', e', q1, q2⟩ := k5 i x (by simp; omega) hi2
              exact ⟨id', e', q1, List.mem_cons_of_mem _ q2⟩
        · simp at hb
      · simp at hb
    | obj k =>
      obtain ⟨g, vals, te, V', rfl, hnil, hheap, hsz, hT⟩ := h
      simp only [bld] at hb
      split at hb
      · rename_i id hid
        split at hb
        · rename_i us' vs' r' he
          cases hb
          have hlen : (acc ++ [(g, ((none, some (.n k)) : Sh))]).length = acc.length + 1 := by simp
          obtain ⟨rr, hrr⟩ := hT.pre
          have hfin : fin[acc.length]? = some (g, (none, some (.n k))) := by rw [hrr]; simp
          have hg : γ' id = g := hγ _ g _ id hfin hid
          have hh : hdOf M' id = some (.obj k) := hu _ List.mem_cons_self
          have hfk : flatOk (n - 1 + k) T = true := f2 (by simp) (by simp) (by simp) k rfl
          obtain ⟨k1, k2, k3, k4, k5⟩ := bld_ok hT (by rw [hlen]; exact he) (fun p hp => hu p (List.mem_cons_of_mem _ (List.mem_append_right _ hp))) hγ (fun i g' q' k' hi id' hid' => by
            rw [List.getElem?_append] at hi
            split at hi
            · exact hacc i g' q' k' hi id' hid'
            · rename_i hlt
              have h0 := (List.getElem?_eq_some_iff.1 hi).1
              simp at h0
              have h1 : i = acc.length := by omega
              subst h1
              simp at hi
              rw [hid] at hid'; cases hid'
              rw [hh, hi.2.2]) hfk
          have hall : All2 (SRep w S γ' (hdOf M')) (vs'.take k) vals.toList := by
            have := k2.take k
            rwa [List.take_left' (by rw [Array.length_toList, hsz])] at this
          refine ⟨k1, .cons ?_ ?_, cons_flat (.inr rfl) (drop_flat k3), fun i e hm => ?_, fun i x hi1 hi2 => ?_⟩
          · have := SRep.ptr (w := w) (S := S) (γ := γ') (off := 0) hh rfl
            rwa [hg] at this
          · have := k2.drop k
            rwa [List.drop_left' (by rw [Array.length_toList, hsz])] at this
          · rcases List.mem_cons.1 hm with hm | hm
            · cases hm
              refine ⟨?_, acc.length, g, Nat.le_refl _, hid, hfin, .inr (.inl ⟨_, rfl⟩)⟩
              refine ⟨by rw [hg]; exact hnil, vals, te, by rw [hg]; exact hheap, hsz, fun j hj => ?_⟩
              obtain ⟨hl, hr⟩ := hall.toArr
              have hjl : j < (vs'.take k).length := by rw [← hl, hsz]; exact hj
              have hs : (vs'.take k)[j]? = some (vs'.take k)[j] := List.getElem?_eq_getElem hjl
              refine ⟨_, ?_, ?_, hr j _ hs⟩
              · have : (Key.cell id j, Ent.sv (vs'.take k)[j]) ∈ wrCells id 0 (vs'.take k) := by
                  have hw : ∀ (off : Nat) (vs : List SV) (j : Nat) (s : SV), vs[j]? = some s → (Key.cell id (off + j), Ent.sv s) ∈ wrCells id off vs := by
                    intro off vs
                    induction vs generalizing off with
                    | nil => intro j s h; simp at h
                    | cons v vs ih =>
                      intro j s h
                      rw [wrCells]
                      cases j with
                      | zero => simp at h; subst h; exact List.mem_cons_self
                      | succ j => exact List.mem_cons_of_mem _ (by have := ih (off + 1) j s (by simpa using h); rwa [Nat.add_assoc, Nat.add_comm 1 j] at this)
                  have := hw 0 _ j _ hs
                  rwa [Nat.zero_add] at this
                exact hu _ (List.mem_cons_of_mem _ (List.mem_append_left _ this))
              · exact k3 j _ (by omega) (by rw [List.getElem?_take_of_lt hj] at hs; exact hs)
            · rcases List.mem_append.1 hm with hm | hm
              · obtain ⟨_, _, _, q⟩ := mem_wrCells hm; cases q
              · obtain ⟨q1, i', g', q2, q3⟩ := k4 i e hm
                exact ⟨q1, i', g', by simp at q2; omega, q3⟩
          · by_cases hi3 : i = acc.length
            · subst hi3; exact ⟨id, _, hid, List.mem_cons_self⟩
            · obtain ⟨id', e', q1, q2⟩ := k5 i x (by simp; omega) hi2
              exact ⟨id', e', q1, List.mem_cons_of_mem _ (List.mem_append_right _ q2)⟩
        · simp at hb
      · simp at hb
    | ref j =>
      obtain ⟨g, q, k, V', hj, _, hV, hT⟩ := h
      simp only [bld] at hb
      split at hb
      · rename_i id hid
        have hh := hacc j g q k hj id hid
        obtain ⟨rr, hrr⟩ := hT.pre
        have hfin : fin[j]? = some (g, (q, some (.n k))) := by rw [hrr, List.getElem?_append_left (List.getElem?_eq_some_iff.1 hj).1, hj]
        have hg : γ' id = g := hγ _ g _ id hfin hid
        refine leaf hV hT ?_ (.inr rfl) rfl hb
        have := SRep.ptr (w := w) (S := S) (γ := γ') (off := 0) hh rfl
        rwa [hg] at this
      · simp at hb
    | agg k =>
      obtain ⟨cs, V', rfl, hsz, hT⟩ := h
      simp only [bld] at hb
      split at hb
      · rename_i us' vs' r' he
        cases hb
        obtain ⟨rfl, hf0⟩ := f5 k rfl
        obtain ⟨k1, k2, k3, k4, k5⟩ := bld_ok hT he hu hγ hacc hf0
        refine ⟨k1, .cons ?_ ?_, fun i s h => by omega, k4, k5⟩
        · have := k2.take k
          rw [List.take_left' (by rw [Array.length_toList, hsz])] at this
          obtain ⟨q1, q2⟩ := this.toArr
          exact .agg q1 q2
        · have := k2.drop k
          rwa [List.drop_left' (by rw [Array.length_toList, hsz])] at this
      · simp at hb
    | clo fn k =>
      obtain ⟨cs, V', rfl, hsz, hT⟩ := h
      simp only [bld] at hb
      split at hb
      · rename_i us' vs' r' he
        cases hb
        obtain ⟨m, hm1, hm2, hm3⟩ := f4 fn k rfl
        obtain ⟨k1, k2, k3, k4, k5⟩ := bld_ok hT he hu hγ hacc hm2
        refine ⟨k1, .cons ?_ ?_, cons_flat (.inr rfl) (fun i s hi hs => ?_), k4, k5⟩
        · have := k2.take k
          rw [List.take_left' (by rw [Array.length_toList, hsz])] at this
          obtain ⟨q1, q2⟩ := this.toArr
          exact .clo rfl q1 (fun j s h => by simp at h) q2
        · have := k2.drop k
          rwa [List.drop_left' (by rw [Array.length_toList, hsz])] at this
        · rw [List.getElem?_drop] at hs
          have : n ≠ 0 := by omega
          have := hm3 this
          exact k3 (k + i) s (by omega) hs
      · simp at hb
    | mapt kag ks z =>
      obtain ⟨g, es, clk, V', L', rfl, rfl, hnil, hm, hT⟩ := h
      simp only [bld] at hb
      split at hb
      · rename_i s es' k clk' L2 id hL hid
        cases hL
        split at hb
        · rename_i us' vs' r' he
          cases hb
          have hlen : (acc ++ [(g, ((none, some (.m kag ks z)) : Sh))]).length = acc.length + 1 := by simp
          obtain ⟨rr, hrr⟩ := hT.pre
          have hfin : fin[acc.length]? = some (g, (none, some (.m kag ks z))) := by rw [hrr]; simp
          have hg : γ' id = g := hγ _ g _ id hfin hid
          have hh : hdOf M' id = some (.mapH kag ks z) := hu _ List.mem_cons_self
          have hc0 : Mem.get (.cell id 0) M' = some (.map es clk) := hu (.cell id 0, .map es clk) (by simp)
          have hc1 : Mem.get (.cell id 1) M' = some (.map es clk) := hu (.cell id 1, .map es clk) (by simp)
          obtain ⟨k1, k2, k3, k4, k5⟩ := bld_ok hT (by rw [hlen]; exact he) (fun p hp => hu p (List.mem_cons_of_mem _ (List.mem_cons_of_mem _ (List.mem_cons_of_mem _ hp)))) hγ (fun i g' q' k hi => by
            rw [List.getElem?_append] at hi
            split at hi
            · exact hacc i g' q' k hi
            · rename_i hlt
              have h0 := (List.getElem?_eq_some_iff.1 hi).1
              simp at h0
              rw [show i - acc.length = 0 by omega] at hi
              simp at hi) (f3 rfl)
          refine ⟨k1, .cons ?_ k2, cons_flat (.inr rfl) k3, fun i e hm' => ?_, fun i x hi1 hi2 => ?_⟩
          · have := SRep.mp (w := w) (S := S) (γ := γ') hh rfl
            rwa [hg] at this
          · rcases List.mem_cons.1 hm' with hm' | hm'
            · cases hm'
              exact ⟨⟨by rw [hg]; exact hnil, es, clk, es, clk, hc0, hc1, fun _ => rfl, by rw [hg]; exact hm⟩, acc.length, g, Nat.le_refl _, hid, hfin, .inr (.inr ⟨_, _, _, rfl⟩)⟩
            rcases List.mem_cons.1 hm' with hm' | hm'
            · cases hm'
            rcases List.mem_cons.1 hm' with hm' | hm'
            · cases hm'
            · obtain ⟨q1, i', g', q2, q3⟩ := k4 i e hm'
              exact ⟨q1, i', g', by simp at q2; omega, q3⟩
          · by_cases hi3 : i = acc.length
            · subst hi3; exact ⟨id, _, hid, List.mem_cons_self⟩
            · obtain ⟨id', e', q1, q2⟩ := k5 i x (by simp; omega) hi2
              exact ⟨id', e', q1, List.mem_cons_of_mem _ (List.mem_cons_of_mem _ (List.mem_cons_of_mem _ q2))⟩
        · simp at hb
      · simp at hb
  termination_by T => T.length

end
end Rf
