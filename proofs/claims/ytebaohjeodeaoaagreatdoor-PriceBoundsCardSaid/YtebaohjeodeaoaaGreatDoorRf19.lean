/- A fresh memory out of leaves; what goes in and comes back lies at the same place. -/
import Derived.Test.YtebaohjeodeaoaaGreatDoorRf18
namespace Rf
open Go

/-- what is owned is nobody else's -/
structure GOk (X : Cx) (w : World) (S : Nat → Prop) (fin : GA) : Prop where
  own : ∀ (i : Nat) (g : Gh) (sh : Sh), fin[i]? = some (g, sh) → g.nil = false → g.blk < w.heap.size ∧ ¬ S g.blk ∧ (X.W0 g.blk ∨ X.w0.heap.size ≤ g.blk)
  inj : ∀ (i j : Nat) (g g' : Gh) (sh sh' : Sh), fin[i]? = some (g, sh) → fin[j]? = some (g', sh') → g.nil = false → g'.nil = false → g.blk = g'.blk → i = j

theorem All2.getR {α β : Type} {R : α → β → Prop} {xs : List α} {ys : List β} (h : All2 R xs ys) : ∀ (j : Nat) (y : β), ys[j]? = some y → ∃ x, xs[j]? = some x ∧ R x y := by
  induction h with
  | nil => intro j x hj; simp at hj
  | cons h _ ih =>
    intro j x hj
    cases j with
    | zero => simp at hj; subst hj; exact ⟨_, rfl, h⟩
    | succ j => simpa using ih j x (by simpa using hj)

theorem apart_head {M : Mem} {ids : List (Option Nat)} {fz : List (Key × Ent)} (h : apartB ids fz = true) {id : Nat} (hid : some id ∈ ids) : hdOf (fz ++ M) id = hdOf M id := by
  rw [hdOf, Mem.get_append, get_miss (fun e he' => apartB_spec h id e he' hid)]
  rw [Option.none_or]; rfl

theorem GOk.of {X : Cx} {M : Mem} {a : Act} {w : World} {γ : Nat → Gh} {S : Nat → Prop} {ids : List (Option Nat)} {fz : List (Key × Ent)} {G : GA} (hR : Rel X (fz ++ M) a w γ S) (hG : All2 (GRel γ M) ids G) (hi : IdsOk M ids)
    (ha : apartB ids fz = true) : GOk X w S G := by
  have key : ∀ (i : Nat) (g : Gh) (sh : Sh), G[i]? = some (g, sh) → g.nil = false → ∃ id e, ids[i]? = some (some id) ∧ g = γ id ∧ hdOf (fz ++ M) id = some e ∧ Owned γ id e := fun i g sh h hn => by
    obtain ⟨x, h1, h2⟩ := hG.getR i _ h
    cases x with
    | none => obtain ⟨h2, _⟩ := h2; simp only at h2; subst h2; simp at hn
    | some id =>
      obtain ⟨h2, e, h3, h4⟩ := h2
      simp only at h2
      subst h2
      refine ⟨id, e, h1, rfl, by rw [apart_head ha (List.mem_of_getElem? h1)]; exact h3, ?_⟩
      obtain ⟨e', q1, q2⟩ := hi.live i id h1
      rw [h3] at q1; cases q1
      rcases q2 with ⟨s, xs, rfl⟩ | ⟨n, rfl⟩ | ⟨_, _, _, rfl⟩
      · exact hn
      · trivial
      · trivial
  refine ⟨fun i g sh h hn => ?_, fun i j g g' sh sh' h h' hn hn' hb => ?_⟩
  · obtain ⟨id, e, _, rfl, h1, h2⟩ := key i g sh h hn
    exact hR.own id e h1 h2
  · obtain ⟨id, e, q0, rfl, q1, q2⟩ := key i g sh h hn
    obtain ⟨id', e', p0, rfl, p1, p2⟩ := key j g' sh' h' hn'
    have := hR.inj id e id' e' q1 p1 q2 p2 hb
    subst this
    exact hi.inj i j _ q0 p0

/-- where what has a name lies -/
def ghAt : List Nat → GA → Nat → Gh
  | n :: nm, g :: fin, id => if id = n then g.1 else ghAt nm fin id
  | _, _, _ => ⟨0, 0, 0, true⟩

theorem NInj.tail {n : Nat} {nm : List Nat} (h : NInj (n :: nm)) : NInj nm := fun i j id h1 h2 => by
  have := h (i + 1) (j + 1) id (by simpa using h1) (by simpa using h2)
  omega

theorem ghAt_get : ∀ {nm : List Nat} {fin : GA}, NInj nm → ∀ (i : Nat) (g : Gh) (k : Sh) (id : Nat), fin[i]? = some (g, k) → nm[i]? = some id → ghAt nm fin id = g
  | [], fin, _, i, g, k, id, _, h => by simp at h
  | n :: nm, [], _, i, g, k, id, h, _ => by simp at h
  | n :: nm, f :: fin, hn, i, g, k, id, h1, h2 => by
    unfold ghAt
    cases i with
    | zero => simp at h1 h2; subst h1; rw [if_pos h2.symm]
    | succ i =>
      simp only [List.getElem?_cons_succ] at h1 h2
      have hne : id ≠ n := fun q => by
        have := hn (i + 1) 0 id (by simpa using h2) (by simp [q])
        omega
      rw [if_neg hne]
      exact ghAt_get hn.tail i g k id h1 h2

theorem namesFrom_get : ∀ {n b i id : Nat}, (namesFrom b n)[i]? = some id → id = b + i
  | 0, b, i, id, h => by simp [namesFrom] at h
  | n + 1, b, i, id, h => by
    rw [namesFrom] at h
    cases i with
    | zero => simp at h; omega
    | succ i => have := namesFrom_get (by simpa using h); omega

theorem namesFrom_inj (b n : Nat) : NInj (namesFrom b n) := fun i j id h1 h2 => by
  have := namesFrom_get h1
  have := namesFrom_get h2
  omega

theorem get_mem {k : Key} {e : Ent} : ∀ {us : List (Key × Ent)}, Mem.get k us = some e → (k, e) ∈ us
  | [], h => by simp [Mem.get] at h
  | (k', e') :: r, h => by
    rw [Mem.get_cons] at h
    split at h
    · rename_i hk; cases h; subst hk; exact List.mem_cons_self
    · exact List.mem_cons_of_mem _ (get_mem h)

theorem get_putSlots {t : Nat} {e : Ent} : ∀ {ts : List Nat} {vs : List SV}, Mem.get (.slot t) (putSlots ts vs) = some e → ∃ (i : Nat) (s : SV), ts[i]? = some t ∧ vs[i]? = some s ∧ e = .sv s
  | [], vs, h => by simp [putSlots, Mem.get] at h
  | _ :: _, [], h => by simp [putSlots, Mem.get] at h
  | t' :: ts, v :: vs, h => by
    rw [putSlots, Mem.get_cons] at h
    split at h
    · rename_i hk; cases h; cases hk; exact ⟨0, v, rfl, rfl, rfl⟩
    · obtain ⟨i, s, h1, h2, h3⟩ := get_putSlots h
      exact ⟨i + 1, s, by simpa using h1, by simpa using h2, h3⟩

theorem get_putSlots_ne {k : Key} (hk : ∀ t, k ≠ .slot t) : ∀ {ts : List Nat} {vs : List SV}, Mem.get k (putSlots ts vs) = none
  | [], vs => by simp [putSlots, Mem.get]
  | _ :: _, [] => by simp [putSlots, Mem.get]
  | t' :: ts, v :: vs => by rw [putSlots, Mem.get_cons, if_neg (hk _), get_putSlots_ne hk]

theorem KeyOf.noSlot {id t : Nat} (h : KeyOf id (.slot t)) : False := by
  rcases h with h | ⟨_, h⟩ <;> cases h

/-- a memory of what is told alone -/
theorem rel_fresh {X : Cx} {a : Act} {w : World} {S : Nat → Prop} {nm ts : List Nat} {T : List Tok} {V : List Value} {L : List FV} {fin : GA} {us : List (Key × Ent)} {svs : List SV} {r : List FV} (hk : Keep X w S) (hnt : a.tmps.size = X.nt) (hdf : a.defers = []) (hpin : ∀ t v, X.pin t = some v → a.tmps.getD t undef = v)
    (hT : TRep w S T V L [] fin) (hfl : flatOk 0 T = true) (hb : bld nm 0 T L = some (us, svs, r)) (hn : NInj nm) (hg : GOk X w S fin) (hs : All2 (fun t v => a.tmps.getD t undef = v) ts V) :
    r = [] ∧ Rel X (putSlots ts svs ++ us) a w (ghAt nm fin) S ∧ All2 (SRep w S (ghAt nm fin) (hdOf us)) svs V := by
  obtain ⟨b1, b2⟩ := bld_keys hn hb
  have hnone : ∀ t, Mem.get (.slot t) us = none := fun t => get_miss fun e he => by
    obtain ⟨i, id, _, _, q⟩ := b1 _ he
    exact q.noSlot
  have hkey : ∀ k, (∀ t, k ≠ .slot t) → Mem.get k (putSlots ts svs ++ us) = Mem.get k us := fun k hk => by
    rw [Mem.get_append, get_putSlots_ne hk, Option.none_or]
  have hh : hdOf (putSlots ts svs ++ us) = hdOf us := funext fun id => hkey _ (fun t => by simp)
  obtain ⟨k1, k2, _, k4, _⟩ := bld_ok (M' := putSlots ts svs ++ us) (γ' := ghAt nm fin) hT hb (fun p hp => by
    rw [hkey p.1 (fun t q => by obtain ⟨i, id, _, _, q'⟩ := b1 _ hp; rw [q] at q'; exact q'.noSlot)]; exact b2 p hp) (ghAt_get hn) (fun i g q k h => by simp at h) hfl
  have hown : ∀ id e, hdOf us id = some e → ORep w S (ghAt nm fin) (putSlots ts svs ++ us) id e ∧ ∃ i g, nm[i]? = some id ∧ fin[i]? = some (g, (e.row, e.ob)) ∧ ghAt nm fin id = g ∧ (Owned (ghAt nm fin) id e → g.nil = false) := fun id e he => by
    obtain ⟨q1, i, g, _, q2, q3, q4⟩ := k4 id e (get_mem he)
    have hgg := ghAt_get hn i g _ id q3 q2
    refine ⟨q1, i, g, q2, q3, hgg, fun ho => ?_⟩
    rcases q4 with ⟨s, xs, rfl⟩ | ⟨n, rfl⟩ | ⟨_, _, _, rfl⟩
    · rw [← hgg]; exact ho
    · rw [← hgg]; exact q1.1
    · rw [← hgg]; exact q1.1
  refine ⟨k1, { keep := hk, head := fun id e he => ?_, own := fun id e he ho => ?_, inj := fun id e id' e' he he' ho ho' hbk => ?_, nt := hnt, nodef := hdf, pin := hpin, slot := fun t s ht => ?_ }, by rw [← hh]; exact k2⟩
  · rw [hh] at he; exact (hown id e he).1
  · rw [hh] at he
    obtain ⟨_, i, g, q1, q2, q3, q4⟩ := hown id e he
    rw [q3]
    exact hg.own i g _ q2 (q4 ho)
  · rw [hh] at he he'
    obtain ⟨_, i, g, q1, q2, q3, q4⟩ := hown id e he
    obtain ⟨_, i', g', p1, p2, p3, p4⟩ := hown id' e' he'
    rw [q3, p3] at hbk
    have := hg.inj i i' g g' _ _ q2 p2 (q4 ho) (p4 ho') hbk
    subst this
    rw [q1] at p1; cases p1; rfl
  · rw [Mem.get_append, hnone, Option.or_none] at ht
    obtain ⟨i, s', q1, q2, q3⟩ := get_putSlots ht
    cases q3
    obtain ⟨v, q4, q5⟩ := k2.get i s q2
    obtain ⟨v', q6, q7⟩ := hs.get i t q1
    rw [q4] at q6; cases q6
    rw [q7]; exact q5

/-! ### the same place -/

def GSim (x y : Gh × Sh) : Prop := x.2 = y.2 ∧ x.1.nil = y.1.nil ∧ (x.1.nil = false → x.1.blk = y.1.blk) ∧ (x.2.2 = none → x.1.cap = y.1.cap ∧ (x.1.nil = false → x.1.off = y.1.off))

theorem TRep.top {w : World} {S : Nat → Prop} {T : List Tok} {V : List Value} {L : List FV} {acc fin : GA} {x : Gh × Sh} (h : TRep w S T V L (acc ++ [x]) fin) : fin[acc.length]? = some x := by
  obtain ⟨r, hr⟩ := h.pre
  rw [hr]; simp

theorem slice_inj {g g' : Gh} {n n' : Nat} (h : Value.slice g.base n g.cap = .slice g'.base n' g'.cap) : n = n' ∧ g.cap = g'.cap ∧ g.nil = g'.nil ∧ (g.nil = false → g.blk = g'.blk ∧ g.off = g'.off) := by
  simp only [Value.slice.injEq] at h
  obtain ⟨h1, h2, h3⟩ := h
  refine ⟨h2, h3, ?_⟩
  cases hn : g.nil <;> cases hn' : g'.nil <;> simp [Gh.base, hn, hn'] at h1 ⊢
  exact h1

theorem past_ok {w : World} {S : Nat → Prop} : ∀ {T T' : List Tok} {n : Nat} {V1 V : List Value} {L : List FV} {acc fin : GA}, pastTok T n = some T' → V1.length = n → TRep w S T (V1 ++ V) L acc fin → tops 0 T = tops 0 T' ∧ ∃ L', TRep w S T' V L' acc fin
  | T, T', 0, V1, V, L, acc, fin, h, hl, hT => by
    have : V1 = [] := List.length_eq_zero_iff.1 hl
    subst this
    cases T <;> (simp [pastTok] at h; subst h; exact ⟨rfl, L, hT⟩)
  | [], T', n + 1, V1, V, L, acc, fin, h, hl, hT => by simp [pastTok] at h
  | t :: T, T', n + 1, v :: V1, V, L, acc, fin, h, hl, hT => by
    have hl' : V1.length = n := by simpa using hl
    cases t with
    | own sz => simp [pastTok] at h
    | obj k => simp [pastTok] at h
    | mapt kag ks z => simp [pastTok] at h
    | ref j => simp [pastTok] at h
    | skip =>
      obtain ⟨v', V', h1, h2⟩ := hT
      simp only [List.cons_append, List.cons.injEq] at h1
      obtain ⟨_, rfl⟩ := h1
      simp only [pastTok, arity, Nat.add_zero] at h
      have := past_ok h hl' h2
      simpa [tops] using this
    | agg k =>
      obtain ⟨cs, V', h1, hsz, h2⟩ := hT
      simp only [List.cons_append, List.cons.injEq] at h1
      obtain ⟨_, rfl⟩ := h1
      simp only [pastTok, arity] at h
      rw [← List.append_assoc] at h2
      have := past_ok h (by simp [hsz, hl']; omega) h2
      simpa [tops] using this
    | clo fn k =>
      obtain ⟨cs, V', h1, hsz, h2⟩ := hT
      simp only [List.cons_append, List.cons.injEq] at h1
      obtain ⟨_, rfl⟩ := h1
      simp only [pastTok, arity] at h
      rw [← List.append_assoc] at h2
      have := past_ok h (by simp [hsz, hl']; omega) h2
      simpa [tops] using this
    | _ =>
      obtain ⟨v', V', x, L', h1, rfl, _, _, h2⟩ := hT
      simp only [List.cons_append, List.cons.injEq] at h1
      obtain ⟨_, rfl⟩ := h1
      simp only [pastTok, arity, Nat.add_zero] at h
      have := past_ok h hl' h2
      simpa [tops] using this
  termination_by T => T.length

theorem io_ok {w w' : World} {S S' : Nat → Prop} : ∀ {T U : List Tok} {n : Nat} {V1 V2 V R : List Value} {L L' : List FV} {acc acc' fin fin' : GA}, ioOk n T U = true → V1.length = n → V2.length = n → TRep w S T (V1 ++ V) L acc fin → TRep w' S' U (V2 ++ (V ++ R)) L' acc' fin' →
    acc.length = acc'.length → ∀ i, (tops n T)[i]? = some true → ∃ x x', fin[acc.length + i]? = some x ∧ fin'[acc.length + i]? = some x' ∧ GSim x x'
  | [], U, n, V1, V2, V, R, L, L', acc, acc', fin, fin', h, l1, l2, hT, hU, ha, i, hi => by simp [tops] at hi
  | t :: T, [], n, V1, V2, V, R, L, L', acc, acc', fin, fin', h, l1, l2, hT, hU, ha, i, hi => by cases n <;> cases t <;> simp [ioOk] at h
  | t :: T, u :: U, 0, V1, V2, V, R, L, L', acc, acc', fin, fin', h, l1, l2, hT, hU, ha, i, hi => by
    have e1 : V1 = [] := List.length_eq_zero_iff.1 l1
    have e2 : V2 = [] := List.length_eq_zero_iff.1 l2
    subst e1; subst e2
    rw [List.nil_append] at hT hU
    cases t with
    | own s =>
      cases u with
      | own s' =>
        simp only [ioOk, Bool.and_eq_true] at h
        have := Nat.eq_of_beq_eq_true h.1
        subst this
        obtain ⟨g, xs, V', L1, rfl, rfl, hv, hT⟩ := hT
        obtain ⟨g', xs', V'', L1', hV, rfl, hv', hU⟩ := hU
        simp only [List.cons_append, List.cons.injEq] at hV
        obtain ⟨hV, rfl⟩ := hV
        obtain ⟨i1, i2, i3, i4⟩ := slice_inj hV
        cases i with
        | zero => exact ⟨(g, _), (g', _), hT.top, by rw [ha]; exact hU.top, by rw [i1], i3, fun h => (i4 h).1, fun _ => ⟨i2, fun h => (i4 h).2⟩⟩
        | succ i =>
          have := io_ok (V1 := []) (V2 := []) h.2 rfl rfl hT hU (by simp [ha]) i (by simpa [tops] using hi)
          simpa [Nat.add_assoc, Nat.add_comm 1 i] using this
      | _ => simp [ioOk] at h
    | obj k =>
      cases u with
      | obj k' =>
        simp only [ioOk, Bool.and_eq_true] at h
        have := Nat.eq_of_beq_eq_true h.1
        subst this
        obtain ⟨g, vals, e, V', rfl, hn, hh, hsz, hT⟩ := hT
        obtain ⟨g', vals', e', V'', hV, hn', hh', hsz', hU⟩ := hU
        simp only [List.cons_append, List.cons.injEq, Value.pointer.injEq, Option.some.injEq, Addr.mk.injEq] at hV
        obtain ⟨⟨hV, _⟩, rfl⟩ := hV
        cases i with
        | zero => exact ⟨(g, _), (g', _), hT.top, by rw [ha]; exact hU.top, rfl, by rw [hn, hn'], fun _ => hV, fun h => by simp at h⟩
        | succ i =>
          have := io_ok (V1 := vals.toList) (V2 := vals'.toList) h.2 (by simp [hsz]) (by simp [hsz']) hT hU (by simp [ha]) i (by simpa [tops] using hi)
          simpa [Nat.add_assoc, Nat.add_comm 1 i] using this
      | _ => simp [ioOk] at h
    | clo fn k =>
      cases u with
      | clo fn' k' =>
        simp only [ioOk, Bool.and_eq_true] at h
        obtain ⟨cs, V', rfl, hsz, hT⟩ := hT
        obtain ⟨cs', V'', hV, hsz', hU⟩ := hU
        simp only [List.cons_append, List.cons.injEq, Value.func.injEq, true_and] at hV
        obtain ⟨⟨_, rfl⟩, rfl⟩ := hV
        rw [← List.append_assoc] at hU
        exact io_ok (V1 := []) (V2 := []) h.2 rfl rfl hT hU ha i (by simpa [tops] using hi)
      | _ => simp [ioOk] at h
    | ref j =>
      cases u with
      | ref j' =>
        simp only [ioOk] at h
        obtain ⟨g, q, k, V', _, _, rfl, hT⟩ := hT
        obtain ⟨g', q', k', V'', _, _, hV, hU⟩ := hU
        simp only [List.cons_append, List.cons.injEq] at hV
        obtain ⟨_, rfl⟩ := hV
        exact io_ok (V1 := []) (V2 := []) h rfl rfl hT hU ha i (by simpa [tops] using hi)
      | _ => simp [ioOk] at h
    | agg k =>
      cases u with
      | skip =>
        simp only [ioOk] at h
        split at h
        · rename_i T' hp
          obtain ⟨cs, V', rfl, hsz, hT⟩ := hT
          obtain ⟨v, V'', hV, hU⟩ := hU
          simp only [List.cons_append, List.cons.injEq] at hV
          obtain ⟨_, rfl⟩ := hV
          obtain ⟨q1, L1, q2⟩ := past_ok hp (by simp [hsz]) hT
          have : T'.length < (Tok.agg k :: T).length := by
            have hl : ∀ {T T' : List Tok} {n : Nat}, pastTok T n = some T' → T'.length ≤ T.length := by
              intro T
              induction T with
              | nil => intro T' n h; cases n <;> simp [pastTok] at h; subst h; exact Nat.le_refl _
              | cons t T ih =>
                intro T' n h
                cases n with
                | zero => simp [pastTok] at h; subst h; exact Nat.le_refl _
                | succ n =>
                  simp only [pastTok] at h
                  split at h
                  all_goals first | (simp at h; done) | (have := ih h; simp; omega)
            have := hl hp
            simp; omega
          exact io_ok (V1 := []) (V2 := []) h rfl rfl q2 hU ha i (by rw [← q1]; simpa [tops] using hi)
        · simp at h
      | _ => simp [ioOk] at h
    | mapt kag ks z =>
      cases u with
      | mapt kag' ks' z' =>
        simp only [ioOk, Bool.and_eq_true] at h
        obtain ⟨q1, q2, q3⟩ := mkEq_eq h.1
        subst q1; subst q2; subst q3
        obtain ⟨g, es, clk, V', L1, rfl, rfl, hn, hm, hT⟩ := hT
        obtain ⟨g', es', clk', V'', L1', hV, rfl, hn', hm', hU⟩ := hU
        simp only [List.cons_append, List.cons.injEq, Value.map.injEq, Option.some.injEq] at hV
        obtain ⟨hV, rfl⟩ := hV
        cases i with
        | zero => exact ⟨(g, _), (g', _), hT.top, by rw [ha]; exact hU.top, rfl, by rw [hn, hn'], fun _ => hV, fun h => by simp at h⟩
        | succ i =>
          have := io_ok (V1 := []) (V2 := []) h.2 rfl rfl hT hU (by simp [ha]) i (by simpa [tops] using hi)
          simpa [Nat.add_assoc, Nat.add_comm 1 i] using this
      | _ => simp [ioOk] at h
    | skip =>
      cases u with
      | skip =>
        simp only [ioOk] at h
        obtain ⟨v', V', rfl, hT⟩ := hT
        obtain ⟨v, V'', hV, hU⟩ := hU
        simp only [List.cons_append, List.cons.injEq] at hV
        obtain ⟨_, rfl⟩ := hV
        exact io_ok (V1 := []) (V2 := []) h rfl rfl hT hU ha i (by simpa [tops] using hi)
      | _ => simp [ioOk] at h
    | _ =>
      cases u with
      | skip =>
        simp only [ioOk] at h
        obtain ⟨v', V', x, L1, rfl, rfl, _, _, hT⟩ := hT
        obtain ⟨v, V'', hV, hU⟩ := hU
        simp only [List.cons_append, List.cons.injEq] at hV
        obtain ⟨_, rfl⟩ := hV
        exact io_ok (V1 := []) (V2 := []) h rfl rfl hT hU ha i (by simpa [tops] using hi)
      | _ => simp [ioOk] at h
  | t :: T, u :: U, n + 1, v1 :: V1, v2 :: V2, V, R, L, L', acc, acc', fin, fin', h, l1, l2, hT, hU, ha, i, hi => by
    have l1' : V1.length = n := by simpa using l1
    have l2' : V2.length = n := by simpa using l2
    simp only [ioOk, Bool.and_eq_true] at h
    obtain ⟨he, h⟩ := h
    cases t with
    | own s =>
      cases u with
      | own s' =>
        obtain ⟨g, xs, V', L1, hV1, rfl, hv, hT⟩ := hT
        obtain ⟨g', xs', V'', L1', hV2, rfl, hv', hU⟩ := hU
        simp only [List.cons_append, List.cons.injEq] at hV1 hV2
        obtain ⟨_, rfl⟩ := hV1
        obtain ⟨_, rfl⟩ := hV2
        cases i with
        | zero => simp [tops] at hi
        | succ i =>
          have := io_ok h (by simpa [arity] using l1') (by simpa [arity] using l2') hT hU (by simp [ha]) i (by simpa [tops, arity] using hi)
          simpa [Nat.add_assoc, Nat.add_comm 1 i] using this
      | _ => simp [tokEq] at he
    | obj k =>
      cases u with
      | obj k' =>
        simp only [tokEq] at he
        have := Nat.eq_of_beq_eq_true he
        subst this
        obtain ⟨g, vals, e, V', hV1, hn, hh, hsz, hT⟩ := hT
        obtain ⟨g', vals', e', V'', hV2, hn', hh', hsz', hU⟩ := hU
        simp only [List.cons_append, List.cons.injEq] at hV1 hV2
        obtain ⟨_, rfl⟩ := hV1
        obtain ⟨_, rfl⟩ := hV2
        rw [← List.append_assoc] at hT hU
        cases i with
        | zero => simp [tops] at hi
        | succ i =>
          have := io_ok h (by simp [arity, hsz, l1']; omega) (by simp [arity, hsz', l2']; omega) hT hU (by simp [ha]) i (by simpa [tops, arity] using hi)
          simpa [Nat.add_assoc, Nat.add_comm 1 i] using this
      | _ => simp [tokEq] at he
    | clo fn k =>
      cases u with
      | clo fn' k' =>
        have hk : k = k' := by
          cases fn <;> cases fn' <;> simp [tokEq] at he
          exact he.2
        subst hk
        obtain ⟨cs, V', hV1, hsz, hT⟩ := hT
        obtain ⟨cs', V'', hV2, hsz', hU⟩ := hU
        simp only [List.cons_append, List.cons.injEq] at hV1 hV2
        obtain ⟨_, rfl⟩ := hV1
        obtain ⟨_, rfl⟩ := hV2
        rw [← List.append_assoc] at hT hU
        exact io_ok h (by simp [arity, hsz, l1']; omega) (by simp [arity, hsz', l2']; omega) hT hU ha i (by simpa [tops, arity, show Nat.beq (n + 1) 0 = false from rfl] using hi)
      | _ => cases fn <;> simp [tokEq] at he
    | agg k =>
      cases u with
      | agg k' =>
        simp only [tokEq] at he
        have := Nat.eq_of_beq_eq_true he
        subst this
        obtain ⟨cs, V', hV1, hsz, hT⟩ := hT
        obtain ⟨cs', V'', hV2, hsz', hU⟩ := hU
        simp only [List.cons_append, List.cons.injEq] at hV1 hV2
        obtain ⟨_, rfl⟩ := hV1
        obtain ⟨_, rfl⟩ := hV2
        rw [← List.append_assoc] at hT hU
        exact io_ok h (by simp [arity, hsz, l1']; omega) (by simp [arity, hsz', l2']; omega) hT hU ha i (by simpa [tops, arity, show Nat.beq (n + 1) 0 = false from rfl] using hi)
      | _ => simp [tokEq] at he
    | ref j =>
      cases u with
      | ref j' =>
        obtain ⟨g, q, k, V', _, _, hV1, hT⟩ := hT
        obtain ⟨g', q', k', V'', _, _, hV2, hU⟩ := hU
        simp only [List.cons_append, List.cons.injEq] at hV1 hV2
        obtain ⟨_, rfl⟩ := hV1
        obtain ⟨_, rfl⟩ := hV2
        exact io_ok h (by simpa [arity] using l1') (by simpa [arity] using l2') hT hU ha i (by simpa [tops, arity] using hi)
      | _ => simp [tokEq] at he
    | mapt kag ks z =>
      cases u with
      | mapt kag' ks' z' =>
        obtain ⟨g, es, clk, V', L1, hV1, rfl, hn, hm, hT⟩ := hT
        obtain ⟨g', es', clk', V'', L1', hV2, rfl, hn', hm', hU⟩ := hU
        simp only [List.cons_append, List.cons.injEq] at hV1 hV2
        obtain ⟨_, rfl⟩ := hV1
        obtain ⟨_, rfl⟩ := hV2
        cases i with
        | zero => simp [tops] at hi
        | succ i =>
          have := io_ok h (by simpa [arity] using l1') (by simpa [arity] using l2') hT hU (by simp [ha]) i (by simpa [tops, arity] using hi)
          simpa [Nat.add_assoc, Nat.add_comm 1 i] using this
      | _ => simp [tokEq] at he
    | skip =>
      cases u with
      | skip =>
        obtain ⟨v', V', hV1, hT⟩ := hT
        obtain ⟨v, V'', hV2, hU⟩ := hU
        simp only [List.cons_append, List.cons.injEq] at hV1 hV2
        obtain ⟨_, rfl⟩ := hV1
        obtain ⟨_, rfl⟩ := hV2
        exact io_ok h (by simpa [arity] using l1') (by simpa [arity] using l2') hT hU ha i (by simpa [tops, arity] using hi)
      | _ => simp [tokEq] at he
    | _ =>
      cases u <;> simp only [tokEq, Bool.false_eq_true] at he
      obtain ⟨v', V', x, L1, hV1, rfl, _, _, hT⟩ := hT
      obtain ⟨v, V'', x', L1', hV2, rfl, _, _, hU⟩ := hU
      simp only [List.cons_append, List.cons.injEq] at hV1 hV2
      obtain ⟨_, rfl⟩ := hV1
      obtain ⟨_, rfl⟩ := hV2
      exact io_ok h (by simpa [arity] using l1') (by simpa [arity] using l2') hT hU ha i (by simpa [tops, arity] using hi)
  termination_by T => T.length

/-- other words for the same places -/
theorem TRep.sim {w : World} {S : Nat → Prop} : ∀ {T : List Tok} {V : List Value} {L : List FV} {acc fin acc2 fin2 : GA}, TRep w S T V L acc fin → fin.length = fin2.length → (∀ (i : Nat) (x y : Gh × Sh), fin[i]? = some x → fin2[i]? = some y → GSim x y) → acc2 = fin2.take acc.length → TRep w S T V L acc2 fin2
  | [], V, L, acc, fin, acc2, fin2, h, hl, hs, ha => by
    obtain ⟨rfl, rfl, rfl⟩ := h
    exact ⟨rfl, rfl, by rw [ha, List.take_of_length_le (by omega)]⟩
  | t :: T, V, L, acc, fin, acc2, fin2, h, hl, hs, ha => by
    have next : ∀ {T' : List Tok} {V' : List Value} {L' : List FV} {x : Gh × Sh}, TRep w S T' V' L' (acc ++ [x]) fin → ∃ y, fin2[acc.length]? = some y ∧ GSim x y ∧ acc2 ++ [y] = fin2.take (acc ++ [x]).length := fun hT => by
      have h1 := hT.top
      have hlt : acc.length < fin2.length := by rw [← hl]; exact (List.getElem?_eq_some_iff.1 h1).1
      refine ⟨fin2[acc.length], List.getElem?_eq_getElem hlt, hs _ _ _ h1 (List.getElem?_eq_getElem hlt), ?_⟩
      rw [ha, List.length_append, List.length_singleton, List.take_add_one, List.getElem?_eq_getElem hlt]
      rfl
    cases t with
    | skip => obtain ⟨v, V', h1, h⟩ := h; exact ⟨v, V', h1, h.sim hl hs ha⟩
    | own sz =>
      obtain ⟨g, xs, V', L', h1, h2, h3, h⟩ := h
      obtain ⟨⟨g2, sh⟩, q1, ⟨q2, q3, q4, q5⟩, q6⟩ := next h
      simp only at q2 q3 q4 q5
      subst q2
      obtain ⟨q7, q8⟩ := q5 trivial
      have hbase : g2.base = g.base := by
        unfold Gh.base
        rw [← q3]
        cases hn : g.nil with
        | true => rfl
        | false => rw [q4 hn, q8 hn]
      refine ⟨g2, xs, V', L', by rw [hbase, ← q7]; exact h1, h2, ?_, h.sim hl hs q6⟩
      refine ⟨by rw [← q7]; exact h3.1, ?_⟩
      have h4 := h3.2
      rw [← q3, ← q7]
      split
      · rename_i hn; rw [if_pos hn] at h4; exact h4
      · rename_i hn
        rw [if_neg hn] at h4
        have hn' : g.nil = false := by simpa using hn
        rw [← q4 hn', ← q8 hn']; exact h4
    | obj k =>
      obtain ⟨g, vals, e, V', h1, h2, h3, h4, h⟩ := h
      obtain ⟨⟨g2, sh⟩, q1, ⟨q2, q3, q4, q5⟩, q6⟩ := next h
      simp only at q2 q3 q4
      subst q2
      exact ⟨g2, vals, e, V', by rw [← q4 h2]; exact h1, by rw [← q3]; exact h2, by rw [← q4 h2]; exact h3, h4, h.sim hl hs q6⟩
    | ref j =>
      obtain ⟨g, q, k, V', h1, hn, h2, h⟩ := h
      obtain ⟨r, hr⟩ := h.pre
      have hj := (List.getElem?_eq_some_iff.1 h1).1
      have h3 : fin[j]? = some (g, (q, some (.n k))) := by rw [hr, List.getElem?_append_left hj, h1]
      have hlt : j < fin2.length := by rw [← hl]; exact (List.getElem?_eq_some_iff.1 h3).1
      have hsim := hs j _ _ h3 (List.getElem?_eq_getElem hlt)
      obtain ⟨q2, q3, q4, _⟩ := hsim
      refine ⟨fin2[j].1, q, k, V', ?_, by rw [← q3]; exact hn, by rw [← q4 hn]; exact h2, h.sim hl hs ha⟩
      rw [ha, List.getElem?_take_of_lt hj, List.getElem?_eq_getElem hlt]
      simp only at q2
      rw [Option.some.injEq]
      exact Prod.ext rfl q2.symm
    | agg k => obtain ⟨cs, V', h1, h2, h⟩ := h; exact ⟨cs, V', h1, h2, h.sim hl hs ha⟩
    | clo fn k => obtain ⟨cs, V', h1, h2, h⟩ := h; exact ⟨cs, V', h1, h2, h.sim hl hs ha⟩
    | mapt kag ks z =>
      obtain ⟨g, es, clk, V', L', h1, h2, hn, hm, h⟩ := h
      obtain ⟨⟨g2, sh⟩, q1, ⟨q2, q3, q4, q5⟩, q6⟩ := next h
      simp only at q2 q3 q4
      subst q2
      refine ⟨g2, es, clk, V', L', by rw [← q4 hn]; exact h1, h2, by rw [← q3]; exact hn, ?_, h.sim hl hs q6⟩
      unfold MRep at hm ⊢
      rw [← q4 hn]; exact hm
    | _ => obtain ⟨v, V', x, L', h1, h2, h3, h4, h⟩ := h; exact ⟨v, V', x, L', h1, h2, h3, h4, h.sim hl hs ha⟩
  termination_by T => T.length

end Rf
