/- Freezing; stores; new variables. -/
import Derived.Test.YtebaohjeodeaoaaGreatDoorRf8
namespace Rf
open Go

/-- These entries freeze what stands in the memory. -/
def FzList (M : Mem) (us : List (Key × Ent)) : Prop :=
  ∀ p, p ∈ us → ∃ id s xs, p = (.head id, .frz s xs) ∧ (hdOf M id = some (.vec s xs) ∨ hdOf M id = some (.frz s xs))

theorem FzList.nil (M : Mem) : FzList M [] := fun p hp => by simp at hp
theorem FzList.app {M : Mem} {u v : List (Key × Ent)} (h : FzList M u) (k : FzList M v) : FzList M (u ++ v) := fun p hp => (List.mem_append.1 hp).elim (h p) (k p)
theorem FzList.cons {M : Mem} {id s : Nat} {xs : List FV} {u : List (Key × Ent)} (h : hdOf M id = some (.vec s xs) ∨ hdOf M id = some (.frz s xs)) (k : FzList M u) : FzList M ((.head id, .frz s xs) :: u) := fun p hp => by
  rcases List.mem_cons.1 hp with rfl | hp
  · exact ⟨id, s, xs, rfl, h⟩
  · exact k p hp
theorem FzList.tail {M : Mem} {p : Key × Ent} {u : List (Key × Ent)} (h : FzList M (p :: u)) : FzList M u := fun q hq => h q (List.mem_cons_of_mem _ hq)

/-- What is found behind freezing. -/
theorem FzList.get {M : Mem} {us : List (Key × Ent)} (h : FzList M us) (k : Key) :
    (Mem.get k (us ++ M) = Mem.get k M ∧ ∀ e, (k, e) ∉ us) ∨ ∃ id s xs, k = .head id ∧ Mem.get k (us ++ M) = some (.frz s xs) ∧ (hdOf M id = some (.vec s xs) ∨ hdOf M id = some (.frz s xs)) := by
  induction us with
  | nil => exact .inl ⟨rfl, fun e h => by simp at h⟩
  | cons p us ih =>
    obtain ⟨id, s, xs, rfl, hp⟩ := h _ List.mem_cons_self
    rw [List.cons_append, Mem.get_cons]
    by_cases hk : k = .head id
    · rw [if_pos hk]; exact .inr ⟨id, s, xs, hk, rfl, hp⟩
    · rw [if_neg hk]
      rcases ih h.tail with ⟨h1, h2⟩ | h1
      · exact .inl ⟨h1, fun e he => (List.mem_cons.1 he).elim (fun he => hk (by cases he; rfl)) (h2 e)⟩
      · exact .inr h1

/-- the heads that are frozen -/
theorem FzList.mem {M : Mem} {us : List (Key × Ent)} (h : FzList M us) {id s : Nat} {xs : List FV} (hm : (Key.head id, Ent.frz s xs) ∈ us) : hdOf (us ++ M) id = some (.frz s xs) := by
  obtain ⟨_, _, _, he, hq⟩ := h _ hm
  cases he
  rcases h.get (.head id) with ⟨_, h2⟩ | ⟨id', s', xs', h1, h2, h3⟩
  · exact absurd hm (h2 _)
  · cases h1
    rw [hdOf, h2]
    rcases hq with hq | hq <;> rcases h3 with h3 | h3 <;> rw [hq] at h3 <;> cases h3 <;> rfl

section
variable {X : Cx} {M : Mem} {a : Act} {w : World} {γ : Nat → Gh} {S : Nat → Prop}

theorem Rel.freezes (h : Rel X M a w γ S) : ∀ {us : List (Key × Ent)}, FzList M us →
    ∃ S', (∀ b, S b → S' b) ∧ (∀ b, S' b → S b ∨ ∃ id s xs, (Key.head id, Ent.frz s xs) ∈ us ∧ b = (γ id).blk) ∧ Rel X (us ++ M) a w γ S'
  | [], _ => ⟨S, fun _ h => h, fun _ h => .inl h, h⟩
  | p :: us, hf => by
    obtain ⟨S1, h1, h2, h3⟩ := h.freezes hf.tail
    obtain ⟨id, s, xs, rfl, hp⟩ := hf _ List.mem_cons_self
    have hh : hdOf (us ++ M) id = some (.vec s xs) ∨ hdOf (us ++ M) id = some (.frz s xs) := by
      rcases hf.tail.get (.head id) with ⟨q, _⟩ | ⟨id', s', xs', q1, q2, q3⟩
      · rw [hdOf, q]; exact hp
      · cases q1
        right
        rw [hdOf, q2]
        rcases hp with hp | hp <;> rcases q3 with q3 | q3 <;> rw [hp] at q3 <;> cases q3 <;> rfl
    have hM : SameBut id (us ++ M) ((.head id, .frz s xs) :: (us ++ M)) := by
      refine ⟨fun i hi => ?_, fun i j hi => ?_, fun t => ?_⟩
      · rw [hdOf, hdOf, Mem.get_cons, if_neg (by simpa using hi)]
      · rw [Mem.get_cons, if_neg (by simp)]
      · rw [Mem.get_cons, if_neg (by simp)]
    obtain ⟨S', k1, k2, k3⟩ := h3.freeze hM hh (by rw [hdOf, Mem.get_cons, if_pos rfl])
    refine ⟨S', fun b hb => k1 b (h1 b hb), fun b hb => ?_, k3⟩
    rcases k2 b hb with q | q
    · rcases h2 b q with q | ⟨id', s', xs', q1, q2⟩
      · exact .inl q
      · exact .inr ⟨id', s', xs', List.mem_cons_of_mem _ q1, q2⟩
    · exact .inr ⟨id, s, xs, List.mem_cons_self, q⟩

/-- A value behind freezing: as it was. -/
theorem FzList.hdLe {us : List (Key × Ent)} (h : FzList M us) : HdLe (hdOf M) (hdOf (us ++ M)) γ γ := fun id e he => by
  rcases h.get (.head id) with ⟨h1, _⟩ | ⟨id', s, xs, h1, h2, h3⟩
  · exact ⟨e, by rw [hdOf, h1]; exact he, .inr ⟨rfl, rfl, fun h => h, rfl⟩⟩
  · cases h1
    refine ⟨_, h2, .inr ?_⟩
    rcases h3 with h3 | h3 <;> rw [he] at h3 <;> cases h3 <;> exact ⟨rfl, rfl, fun h => by simp at h, rfl⟩

/-- how a value is frozen -/
inductive FzOk (M : Mem) (us : List (Key × Ent)) : SV → FV → Prop
  | nilS : FzOk M us .nilS (.list 0 [])
  | fv {x : FV} (h : x.flat = true) : FzOk M us (.fv x) x
  | sl {id s : Nat} {xs : List FV} (h : (Key.head id, Ent.frz s xs) ∈ us) : FzOk M us (.sl id none) (.list s xs)
  | view {id s o n : Nat} {xs : List FV} (h : (Key.head id, Ent.frz s xs) ∈ us) : FzOk M us (.sl id (some (o, n))) (.list s ((xs.drop o).take n))

theorem FzOk.flat {us : List (Key × Ent)} {s : SV} {x : FV} (h : FzOk M us s x) : x.flat = true := by
  cases h with
  | fv h => exact h
  | _ => rfl

theorem nil_list {w : World} {S : Nat → Prop} {sz : Nat} {a : Option Addr} {cap : Nat} : FRep w S (.list sz []) (.slice a 0 cap) :=
  FRep.list_iff.2 ⟨a, cap, 0, 0, rfl, Nat.zero_le _, fun h => absurd rfl h, fun _ h => by simp at h, fun i j x c h => by simp at h⟩

theorem Row.sub' {b o sz : Nat} {xs : List FV} (h : Row w S b o sz xs) (l n : Nat) : Row w S b (o + l * sz) sz ((xs.drop l).take n) := by
  have := h.sub l (l + n)
  rwa [List.drop_take, Nat.add_sub_cancel_left] at this

/-- An owned or frozen row, frozen, reads as its list. -/
theorem frz_rep (h : Rel X M a w γ S) {id s : Nat} {xs : List FV} (he : hdOf M id = some (.frz s xs)) {view : Option (Nat × Nat)} {v : Value} (hv : SRep w S γ (hdOf M) (.sl id view) v) :
    FRep w S (.list s (match view with | none => xs | some (o, n) => (xs.drop o).take n)) v := by
  have ho := h.head id _ he
  rcases hv.sl_inv he rfl with ⟨rfl, rfl⟩ | ⟨o, n, aa, c, rfl, rfl, h1, h2, h3, h4⟩
  · by_cases hn : (γ id).nil = true
    · have h2 := ho.2
      rw [if_pos hn] at h2
      simp only [h2.1, List.length_nil]
      exact nil_list
    · have h2 := ho.2
      rw [if_neg hn] at h2
      exact FRep.list_iff.2 ⟨_, _, (γ id).blk, (γ id).off, rfl, ho.1, fun _ => ⟨by simp [Gh.base, hn], h2.1⟩, h2.2⟩
  · have hlen : ((xs.drop o).take n).length = n := by simp; omega
    by_cases h0 : n = 0
    · subst h0
      simp only [List.take_zero]
      exact nil_list
    · obtain ⟨hn, rfl⟩ := h3 h0
      have h2' := ho.2
      rw [if_neg (by simp [hn])] at h2'
      exact FRep.list_iff.2 ⟨_, c, (γ id).blk, (γ id).off + o * s, by rw [hlen], by rw [hlen]; exact h2, fun _ => ⟨rfl, h2'.1⟩, h2'.2.sub' o n⟩

theorem FzOk.rep {us : List (Key × Ent)} {s : SV} {x : FV} (hz : FzOk M us s x) (hf : FzList M us) (h : Rel X (us ++ M) a w γ S) {v : Value} (hv : SRep w S γ (hdOf (us ++ M)) s v) : FRep w S x v ∧ x.flat = true ∧ v.oneCell' = true := by
  cases hz with
  | nilS => rw [hv.nilS_inv]; exact ⟨nil_list, rfl, rfl⟩
  | fv hx =>
    cases hv with
    | fv hr =>
      refine ⟨hr, hx, ?_⟩
      cases hr <;> first | rfl | exact hx | (simp [FV.flat] at hx)
    | tomb hs _ => simp [SV.refId] at hs
  | sl hm =>
    have := frz_rep h (hf.mem hm) hv
    rcases hv.sl_inv (hf.mem hm) rfl with ⟨_, rfl⟩ | ⟨o, n, aa, c, q, _⟩
    · exact ⟨this, rfl, rfl⟩
    · simp at q
  | view hm =>
    have := frz_rep h (hf.mem hm) hv
    rcases hv.sl_inv (hf.mem hm) rfl with ⟨q, _⟩ | ⟨o, n, aa, c, q, rfl, _⟩
    · simp at q
    · exact ⟨this, rfl, rfl⟩

theorem FzOk.mono {us vs : List (Key × Ent)} (hs : ∀ p, p ∈ us → p ∈ vs) {s : SV} {x : FV} (h : FzOk M us s x) : FzOk M vs s x := by
  cases h with
  | nilS => exact .nilS
  | fv h => exact .fv h
  | sl h => exact .sl (hs _ h)
  | view h => exact .view (hs _ h)

theorem gets_frz1 {s : SV} {us : List (Key × Ent)} {f : FV → List (Key × Ent) → RT} (hg : Gets (frz1 s f) M us) : ∃ x fz, FzList M fz ∧ FzOk M fz s x ∧ Gets (f x fz) M us := by
  unfold frz1 at hg
  split at hg
  · exact ⟨_, [], FzList.nil M, .nilS, hg⟩
  · obtain ⟨hx, hg⟩ := gets_bif hg
    exact ⟨_, [], FzList.nil M, .fv hx, hg⟩
  · rename_i id view
    obtain ⟨e, he, hg⟩ := gets_rdHead hg
    split at hg
    · rename_i s xs
      split at hg
      · exact ⟨_, _, FzList.cons (.inl he) (FzList.nil M), .sl List.mem_cons_self, hg⟩
      · exact ⟨_, _, FzList.cons (.inl he) (FzList.nil M), .view List.mem_cons_self, hg⟩
    · rename_i s xs
      split at hg
      · exact ⟨_, _, FzList.cons (.inr he) (FzList.nil M), .sl List.mem_cons_self, hg⟩
      · exact ⟨_, _, FzList.cons (.inr he) (FzList.nil M), .view List.mem_cons_self, hg⟩
    · exact (gets_fail hg).elim
  · exact (gets_fail hg).elim

theorem gets_frzs {us : List (Key × Ent)} : ∀ {ss : List SV} {f : List FV → List (Key × Ent) → RT}, Gets (frzs ss f) M us →
    ∃ xs fz, FzList M fz ∧ xs.length = ss.length ∧ (∀ (j : Nat) (s : SV), ss[j]? = some s → ∃ x, xs[j]? = some x ∧ FzOk M fz s x) ∧ Gets (f xs fz) M us
  | [], f, hg => ⟨[], [], FzList.nil M, rfl, fun j s h => by simp at h, hg⟩
  | s :: ss, f, hg => by
    unfold frzs at hg
    obtain ⟨x, fz, h1, h2, hg⟩ := gets_frz1 hg
    obtain ⟨xs, fz', h3, h4, h5, hg⟩ := gets_frzs hg
    refine ⟨x :: xs, fz ++ fz', h1.app h3, by simp [h4], fun j s' hj => ?_, hg⟩
    cases j with
    | zero => simp at hj; subst hj; exact ⟨x, rfl, h2.mono fun p hp => List.mem_append_left _ hp⟩
    | succ j =>
      obtain ⟨x', q1, q2⟩ := h5 j s' (by simpa using hj)
      exact ⟨x', by simpa using q1, q2.mono fun p hp => List.mem_append_right _ hp⟩

/-- a frozen value's cells -/
theorem gets_frz {s : SV} {us : List (Key × Ent)} {f : FV → List (Key × Ent) → RT} (hg : Gets (frz s f) M us) :
    ∃ x fz, FzList M fz ∧ Gets (f x fz) M us ∧ (x.cells.length = s.cells.length ∧ ∀ c, c ∈ x.cells → c.flat = true) ∧ ∀ (S' : Nat → Prop) (v : Value), Rel X (fz ++ M) a w γ S' → SRep w S' γ (hdOf (fz ++ M)) s v →
      v.cells.size = s.cells.length ∧ ∀ (j : Nat) (c : FV), x.cells[j]? = some c → ∃ u, v.cells[j]? = some u ∧ FRep w S' c u ∧ u.oneCell' = true := by
  unfold frz at hg
  split at hg
  · rename_i cs
    obtain ⟨xs, fz, h1, h2, h3, hg⟩ := gets_frzs hg
    refine ⟨.agg xs, fz, h1, hg, ⟨h2, fun c hc => ?_⟩, fun S' v hR hv => ?_⟩
    · obtain ⟨j, hj⟩ := List.mem_iff_getElem?.1 hc
      simp only [FV.cells] at hj
      have hj' := (List.getElem?_eq_some_iff.1 hj).1
      obtain ⟨x', q1, q2⟩ := h3 j cs[j] (List.getElem?_eq_getElem (by omega))
      rw [hj] at q1; cases q1
      exact q2.flat
    obtain ⟨vs, rfl, hl, hr⟩ := hv.agg_inv
    refine ⟨hl, fun j c hj => ?_⟩
    simp only [FV.cells] at hj
    have hj' := (List.getElem?_eq_some_iff.1 hj).1
    have hjs : j < cs.length := by omega
    obtain ⟨x', q1, q2⟩ := h3 j cs[j] (List.getElem?_eq_getElem hjs)
    rw [hj] at q1; cases q1
    have := q2.rep h1 hR (hr j cs[j] (List.getElem?_eq_getElem hjs))
    have hv' : vs[j]? = some (vs.getD j undef) := by
      rw [Array.getD_eq_getD_getElem?, Array.getElem?_eq_getElem (by omega), Option.getD_some]
    exact ⟨_, hv', this.1, this.2.2⟩
  · rename_i hs
    obtain ⟨x, fz, h1, h2, hg⟩ := gets_frz1 hg
    have hsc : s.cells = [s] := by cases s <;> first | rfl | exact absurd rfl (hs _)
    have hxc : x.cells = [x] := by cases h2 with
      | fv h => cases x <;> first | rfl | simp [FV.flat] at h
      | _ => rfl
    refine ⟨x, fz, h1, hg, ⟨by rw [hsc, hxc]; rfl, fun c hc => by rw [hxc] at hc; simp at hc; subst hc; exact h2.flat⟩, fun S' v hR hv => ?_⟩
    obtain ⟨q1, q2, q3⟩ := h2.rep h1 hR hv
    have hvc : v.cells = #[v] := by cases v <;> first | rfl | simp [Value.oneCell'] at q3
    rw [hvc, hsc, hxc]
    refine ⟨rfl, fun j c hj => ?_⟩
    cases j with
    | zero => simp at hj; subst hj; exact ⟨v, rfl, q1, q3⟩
    | succ j => simp at hj

end
end Rf
