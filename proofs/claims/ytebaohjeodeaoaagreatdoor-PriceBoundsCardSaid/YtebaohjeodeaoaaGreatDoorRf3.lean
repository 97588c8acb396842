/- How the relation lasts over what an operation does: something new, something changed, something given up, something frozen. -/
import Derived.Test.YtebaohjeodeaoaaGreatDoorRf2
namespace Rf
open Go

/-- The world w' is as w, but for block b. -/
structure But (b : Nat) (w w' : World) : Prop where
  size : w.heap.size ≤ w'.heap.size
  block : ∀ k, k ≠ b → k < w.heap.size → w'.heap[k]? = w.heap[k]?
  os : w'.os = w.os
  tape : w'.tape = w.tape
  output : w'.output = w.output

theorem But.refl (b : Nat) (w : World) : But b w w := ⟨Nat.le_refl _, fun _ _ _ => rfl, rfl, rfl, rfl⟩
theorem But.trans {b : Nat} {u v w : World} (h : But b u v) (k : But b v w) : But b u w :=
  ⟨Nat.le_trans h.size k.size, fun i h1 h2 => (k.block i h1 (Nat.lt_of_lt_of_le h2 h.size)).trans (h.block i h1 h2), k.os.trans h.os, k.tape.trans h.tape, k.output.trans h.output⟩

theorem But.drawn (b : Nat) (w : World) (n : Nat) : But b w { w with drawn := n } := ⟨Nat.le_refl _, fun _ _ _ => rfl, rfl, rfl, rfl⟩

theorem But.new (w : World) (o : Obj) : But w.heap.size w { w with heap := w.heap.push o } :=
  ⟨by simp, fun k _ hk => by simp [Array.getElem?_push, Nat.ne_of_lt hk], rfl, rfl, rfl⟩

theorem But.setCell (w : World) (a : Addr) (v : Value) : But a.block w (w.setCell a v) :=
  ⟨by simp [World.setCell], fun k hk _ => by simp only [World.setCell, Array.getElem?_modify]; rw [if_neg (Ne.symm hk)], rfl, rfl, rfl⟩

theorem Keep.but {X : Cx} {w w' : World} {S : Nat → Prop} {b : Nat} (h : Keep X w S) (hb : But b w w') (ho : X.W0 b ∨ X.w0.heap.size ≤ b) : Keep X w' S where
  size := Nat.le_trans h.size hb.size
  block := fun k h1 h2 => by
    rw [hb.block k (by rintro rfl; rcases ho with ho | ho; exact h2 ho; omega) (Nat.lt_of_lt_of_le h1 h.size)]; exact h.block k h1 h2
  os := hb.os.trans h.os
  tape := hb.tape.trans h.tape
  output := hb.output.trans h.output
  bound := fun k hk => Nat.lt_of_lt_of_le (h.bound k hk) hb.size
  smon := h.smon
  sfrom := h.sfrom
  tab := h.tab

theorem HRel.sblock {X : Cx} {M : Mem} {w w' : World} {γ : Nat → Gh} {S : Nat → Prop} {b : Nat} (h : HRel X M w γ S) (hb : But b w w') (hS : ¬ S b) : ∀ k, S k → w'.heap[k]? = w.heap[k]? :=
  fun k hk => hb.block k (by rintro rfl; exact hS hk) (h.keep.bound k hk)

def Gh.upd (γ : Nat → Gh) (id : Nat) (g : Gh) : Nat → Gh := fun i => if i = id then g else γ i

theorem Gh.upd_same (γ : Nat → Gh) (id : Nat) (g : Gh) : Gh.upd γ id g id = g := by simp [Gh.upd]
theorem Gh.upd_ne (γ : Nat → Gh) {id i : Nat} (g : Gh) (h : i ≠ id) : Gh.upd γ id g i = γ i := by simp [Gh.upd, h]

theorem Owned.congr {γ γ' : Nat → Gh} {id : Nat} {e : Ent} (h : γ' id = γ id) (ho : Owned γ' id e) : Owned γ id e := by
  cases e <;> simp_all [Owned]

/-- What an ORep of another name is worth where ghosts, heads and the world go on. -/
theorem ORep.go {w w' : World} {S S' : Nat → Prop} {γ γ' : Nat → Gh} {M M' : Mem} (hw : ∀ b, S b → w'.heap[b]? = w.heap[b]?) (hS : ∀ b, S b → S' b) (hh : HdLe (hdOf M) (hdOf M') γ γ') {id : Nat} {e : Ent}
    (hg : γ' id = γ id) (hc : ∀ j, Mem.get (.cell id j) M' = Mem.get (.cell id j) M) (hb : Owned γ id e → w'.heap[(γ id).blk]? = w.heap[(γ id).blk]?) (ho : ORep w S γ M id e) : ORep w' S' γ' M' id e := by
  cases e with
  | obj n =>
    obtain ⟨h0, vals, e, h1, h2, h3⟩ := ho
    simp only [ORep, hg]
    exact ⟨h0, vals, e, (hb trivial).trans h1, h2, fun j hj => let ⟨s, a, b, c⟩ := h3 j hj; ⟨s, (hc j).trans a, b, c.mono hw hS hh⟩⟩
  | vec sz xs =>
    simp only [ORep, hg]
    exact (show ORep w' S' γ M id (.vec sz xs) from ho.mono hw hS hb)
  | frz sz xs =>
    simp only [ORep, hg]
    exact (show ORep w' S' γ M id (.frz sz xs) from ho.mono hw hS hb)
  | mapH kag ks z =>
    obtain ⟨h0, es, clk, es', clk', h1, h2, h3, h4⟩ := ho
    simp only [ORep, hg]
    exact ⟨h0, es, clk, es', clk', (hc _).trans h1, (hc _).trans h2, h3, h4.mono hw hS (hb trivial)⟩
  | tomb => trivial
  | sv _ => exact ho
  | map _ _ => exact ho

/-- the heads of M' are those of M but for one -/
def SameBut (id : Nat) (M M' : Mem) : Prop := (∀ i, i ≠ id → hdOf M' i = hdOf M i) ∧ (∀ i j, i ≠ id → Mem.get (.cell i j) M' = Mem.get (.cell i j) M) ∧ ∀ t, Mem.get (.slot t) M' = Mem.get (.slot t) M

/-- Something new under a name that nobody has, in a block that nobody owns. -/
theorem Rel.gain {X : Cx} {M M' : Mem} {a : Act} {w w' : World} {γ : Nat → Gh} {S : Nat → Prop} (h : Rel X M a w γ S) {id : Nat} {e : Ent} {g : Gh} (hf : hdOf M id = none) (hM : SameBut id M M')
    (he : hdOf M' id = some e) (hb : But g.blk w w') (hS : ¬ S g.blk) (hn : ∀ i e, hdOf M i = some e → Owned γ i e → (γ i).blk ≠ g.blk) (hl : g.blk < w'.heap.size)
    (hx : X.W0 g.blk ∨ X.w0.heap.size ≤ g.blk) (ho : HdLe (hdOf M) (hdOf M') γ (Gh.upd γ id g) → ORep w' S (Gh.upd γ id g) M' id e) : Rel X M' a w' (Gh.upd γ id g) S := by
  have hne : ∀ i e, hdOf M i = some e → i ≠ id := fun i e h1 h2 => by rw [h2, hf] at h1; simp at h1
  have hh : HdLe (hdOf M) (hdOf M') γ (Gh.upd γ id g) := fun i e h1 => ⟨e, by rw [hM.1 i (hne i e h1)]; exact h1, .inr ⟨rfl, rfl, fun h => h, Gh.upd_ne γ g (hne i e h1)⟩⟩
  have hw := h.toHRel.sblock hb hS
  have hS' : ∀ b, S b → S b := fun _ h => h
  have cases' : ∀ i e', hdOf M' i = some e' → (i = id ∧ e' = e) ∨ (i ≠ id ∧ hdOf M i = some e') := fun i e' h1 => by
    by_cases hi : i = id
    · subst hi; rw [he] at h1; exact .inl ⟨rfl, by simpa using h1.symm⟩
    · exact .inr ⟨hi, by rw [← hM.1 i hi]; exact h1⟩
  refine { keep := h.keep.but hb hx, head := fun i e' h1 => ?_, own := fun i e' h1 h2 => ?_, inj := fun i e1 j e2 h1 h2 o1 o2 hbk => ?_, nt := h.nt, nodef := h.nodef, pin := h.pin, slot := fun t s hs => ?_ }
  · rcases cases' i e' h1 with ⟨rfl, rfl⟩ | ⟨hi, h1⟩
    · exact ho hh
    · exact (h.head i e' h1).go hw hS' hh (Gh.upd_ne γ g hi) (fun j => hM.2.1 i j hi) fun ow => hb.block _ (hn i e' h1 ow) (h.own i e' h1 ow).1
  · rcases cases' i e' h1 with ⟨rfl, rfl⟩ | ⟨hi, h1⟩
    · rw [Gh.upd_same]; exact ⟨hl, hS, hx⟩
    · have h2 := Owned.congr (Gh.upd_ne γ g hi) h2
      rw [Gh.upd_ne γ g hi]
      have := h.own i e' h1 h2
      exact ⟨Nat.lt_of_lt_of_le this.1 hb.size, this.2⟩
  · rcases cases' i e1 h1 with ⟨rfl, rfl⟩ | ⟨hi, h1⟩ <;> rcases cases' j e2 h2 with ⟨rfl, rfl⟩ | ⟨hj, h2⟩
    · rfl
    · rw [Gh.upd_same, Gh.upd_ne γ g hj] at hbk
      exact absurd hbk.symm (hn j e2 h2 (Owned.congr (Gh.upd_ne γ g hj) o2))
    · rw [Gh.upd_same, Gh.upd_ne γ g hi] at hbk
      exact absurd hbk (hn i e1 h1 (Owned.congr (Gh.upd_ne γ g hi) o1))
    · rw [Gh.upd_ne γ g hi, Gh.upd_ne γ g hj] at hbk
      exact h.inj i e1 j e2 h1 h2 (Owned.congr (Gh.upd_ne γ g hi) o1) (Owned.congr (Gh.upd_ne γ g hj) o2) hbk
  · rw [hM.2.2 t] at hs
    exact (h.slot t s hs).mono hw hS' hh

/-- Something that is owned is given up. -/
theorem Rel.lose {X : Cx} {M M' : Mem} {a : Act} {w : World} {γ : Nat → Gh} {S : Nat → Prop} (h : Rel X M a w γ S) {id : Nat} (hM : SameBut id M M') (he : hdOf M' id = some .tomb) : Rel X M' a w γ S := by
  have hh : HdLe (hdOf M) (hdOf M') γ γ := fun i e h1 => by
    by_cases hi : i = id
    · subst hi; exact ⟨_, he, .inl rfl⟩
    · exact ⟨e, by rw [hM.1 i hi]; exact h1, .inr ⟨rfl, rfl, fun h => h, rfl⟩⟩
  have cases' : ∀ i e', hdOf M' i = some e' → (i = id ∧ e' = .tomb) ∨ (i ≠ id ∧ hdOf M i = some e') := fun i e' h1 => by
    by_cases hi : i = id
    · subst hi; rw [he] at h1; exact .inl ⟨rfl, by simpa using h1.symm⟩
    · exact .inr ⟨hi, by rw [← hM.1 i hi]; exact h1⟩
  refine { keep := h.keep, head := fun i e' h1 => ?_, own := fun i e' h1 h2 => ?_, inj := fun i e1 j e2 h1 h2 o1 o2 hbk => ?_, nt := h.nt, nodef := h.nodef, pin := h.pin, slot := fun t s hs => ?_ }
  · rcases cases' i e' h1 with ⟨rfl, rfl⟩ | ⟨hi, h1⟩
    · trivial
    · exact (h.head i e' h1).go (fun _ _ => rfl) (fun _ h => h) hh rfl (fun j => hM.2.1 i j hi) fun _ => rfl
  · rcases cases' i e' h1 with ⟨rfl, rfl⟩ | ⟨hi, h1⟩
    · exact absurd h2 (by simp [Owned])
    · exact h.own i e' h1 h2
  · rcases cases' i e1 h1 with ⟨rfl, rfl⟩ | ⟨hi, h1⟩
    · exact absurd o1 (by simp [Owned])
    rcases cases' j e2 h2 with ⟨rfl, rfl⟩ | ⟨hj, h2⟩
    · exact absurd o2 (by simp [Owned])
    · exact h.inj i e1 j e2 h1 h2 o1 o2 hbk
  · rw [hM.2.2 t] at hs
    exact (h.slot t s hs).mono (fun _ _ => rfl) (fun _ h => h) hh

/-- Something that is owned is written. -/
theorem Rel.change {X : Cx} {M M' : Mem} {a : Act} {w w' : World} {γ : Nat → Gh} {S : Nat → Prop} (h : Rel X M a w γ S) {id : Nat} {e e' : Ent} (hM : SameBut id M M') (he : hdOf M id = some e) (ho : Owned γ id e)
    (he' : hdOf M' id = some e') (hr : e'.row = e.row ∧ e'.ob = e.ob ∧ e ≠ .tomb) (hb : But (γ id).blk w w')
    (hn : HdLe (hdOf M) (hdOf M') γ γ → ORep w' S γ M' id e') (ho' : Owned γ id e') : Rel X M' a w' γ S := by
  have hh : HdLe (hdOf M) (hdOf M') γ γ := fun i e1 h1 => by
    by_cases hi : i = id
    · subst hi; rw [he] at h1; cases h1; exact ⟨e', he', .inr ⟨hr.1, hr.2.1, fun h => absurd h hr.2.2, rfl⟩⟩
    · exact ⟨e1, by rw [hM.1 i hi]; exact h1, .inr ⟨rfl, rfl, fun h => h, rfl⟩⟩
  have own := h.own id e he ho
  have hw := h.toHRel.sblock hb own.2.1
  have cases' : ∀ i e1, hdOf M' i = some e1 → (i = id ∧ e1 = e') ∨ (i ≠ id ∧ hdOf M i = some e1) := fun i e1 h1 => by
    by_cases hi : i = id
    · subst hi; rw [he'] at h1; exact .inl ⟨rfl, by simpa using h1.symm⟩
    · exact .inr ⟨hi, by rw [← hM.1 i hi]; exact h1⟩
  refine { keep := h.keep.but hb own.2.2, head := fun i e1 h1 => ?_, own := fun i e1 h1 h2 => ?_, inj := fun i e1 j e2 h1 h2 o1 o2 hbk => ?_, nt := h.nt, nodef := h.nodef, pin := h.pin, slot := fun t s hs => ?_ }
  · rcases cases' i e1 h1 with ⟨rfl, rfl⟩ | ⟨hi, h1⟩
    · exact hn hh
    · exact (h.head i e1 h1).go hw (fun _ h => h) hh rfl (fun j => hM.2.1 i j hi) fun ow => hb.block _ (fun hbk => hi (h.inj i e1 id e h1 he ow ho hbk)) (h.own i e1 h1 ow).1
  · rcases cases' i e1 h1 with ⟨rfl, rfl⟩ | ⟨hi, h1⟩
    · exact ⟨Nat.lt_of_lt_of_le own.1 hb.size, own.2⟩
    · have := h.own i e1 h1 h2
      exact ⟨Nat.lt_of_lt_of_le this.1 hb.size, this.2⟩
  · rcases cases' i e1 h1 with ⟨rfl, rfl⟩ | ⟨hi, h1⟩ <;> rcases cases' j e2 h2 with ⟨rfl, rfl⟩ | ⟨hj, h2⟩
    · rfl
    · exact (h.inj j e2 i e h2 he o2 ho hbk.symm).symm
    · exact h.inj i e1 j e h1 he o1 ho hbk
    · exact h.inj i e1 j e2 h1 h2 o1 o2 hbk
  · rw [hM.2.2 t] at hs
    exact (h.slot t s hs).mono hw (fun _ h => h) hh

/-- An owned slice is frozen. -/
theorem Rel.freeze {X : Cx} {M M' : Mem} {a : Act} {w : World} {γ : Nat → Gh} {S : Nat → Prop} (h : Rel X M a w γ S) {id sz : Nat} {xs : List FV} (hM : SameBut id M M')
    (he : hdOf M id = some (.vec sz xs) ∨ hdOf M id = some (.frz sz xs)) (he' : hdOf M' id = some (.frz sz xs)) :
    ∃ S', (∀ b, S b → S' b) ∧ (∀ b, S' b → S b ∨ b = (γ id).blk) ∧ Rel X M' a w γ S' := by
  have hh : HdLe (hdOf M) (hdOf M') γ γ := fun i e1 h1 => by
    by_cases hi : i = id
    · subst hi
      rcases he with he | he <;> rw [he] at h1 <;> cases h1 <;> exact ⟨_, he', .inr ⟨rfl, rfl, fun h => (by simp at h), rfl⟩⟩
    · exact ⟨e1, by rw [hM.1 i hi]; exact h1, .inr ⟨rfl, rfl, fun h => h, rfl⟩⟩
  have cases' : ∀ i e1, hdOf M' i = some e1 → (i = id ∧ e1 = .frz sz xs) ∨ (i ≠ id ∧ hdOf M i = some e1) := fun i e1 h1 => by
    by_cases hi : i = id
    · subst hi; rw [he'] at h1; exact .inl ⟨rfl, by simpa using h1.symm⟩
    · exact .inr ⟨hi, by rw [← hM.1 i hi]; exact h1⟩
  have main : ∀ S' : Nat → Prop, (∀ b, S b → S' b) → (∀ b, S' b → S b ∨ ((γ id).nil = false ∧ hdOf M id = some (.vec sz xs) ∧ b = (γ id).blk)) → ORep w S' γ M' id (.frz sz xs) → Rel X M' a w γ S' := by
    intro S' h1 h2 h3
    refine { keep := { h.keep with bound := fun b hb => ?_, smon := fun b hb => h1 b (h.keep.smon b hb), sfrom := fun b hb => ?_ }, head := fun i e1 he1 => ?_, own := fun i e1 he1 ow => ?_, inj := fun i e1 j e2 hi hj o1 o2 hbk => ?_, nt := h.nt, nodef := h.nodef, pin := h.pin, slot := fun t s hs => ?_ }
    · rcases h2 b hb with h4 | ⟨h4, h5, rfl⟩
      · exact h.keep.bound b h4
      · exact (h.own id _ h5 h4).1
    · rcases h2 b hb with h4 | ⟨h4, h5, rfl⟩
      · exact h.keep.sfrom b h4
      · exact .inr (h.own id _ h5 h4).2.2
    · rcases cases' i e1 he1 with ⟨rfl, rfl⟩ | ⟨hi, he1⟩
      · exact h3
      · exact (h.head i e1 he1).go (fun _ _ => rfl) h1 hh rfl (fun j => hM.2.1 i j hi) fun _ => rfl
    · rcases cases' i e1 he1 with ⟨rfl, rfl⟩ | ⟨hi, he1⟩
      · exact absurd ow (by simp [Owned])
      · have := h.own i e1 he1 ow
        refine ⟨this.1, fun hS => ?_, this.2.2⟩
        rcases h2 _ hS with h4 | ⟨h4, h5, h6⟩
        · exact this.2.1 h4
        · exact hi (h.inj i e1 id _ he1 h5 ow h4 h6)
    · rcases cases' i e1 hi with ⟨rfl, rfl⟩ | ⟨hi', hi⟩
      · exact absurd o1 (by simp [Owned])
      rcases cases' j e2 hj with ⟨rfl, rfl⟩ | ⟨hj', hj⟩
      · exact absurd o2 (by simp [Owned])
      · exact h.inj i e1 j e2 hi hj o1 o2 hbk
    · rw [hM.2.2 t] at hs
      exact (h.slot t s hs).mono (fun _ _ => rfl) h1 hh
  rcases he with he | he
  · have ho := h.head id _ he
    by_cases hn : (γ id).nil = true
    · refine ⟨S, fun _ h => h, fun _ h => .inl h, main S (fun _ h => h) (fun _ h => .inl h) ⟨ho.1, ?_⟩⟩
      rw [if_pos hn]; have := ho.2; rwa [if_pos hn] at this
    · have hn' : (γ id).nil = false := by simpa using hn
      refine ⟨fun b => S b ∨ b = (γ id).blk, fun _ h => .inl h, fun _ h => h, main _ (fun _ h => .inl h) (fun b hb => hb.imp (fun h => h) fun h => ⟨hn', he, h⟩) ⟨ho.1, ?_⟩⟩
      rw [if_neg hn]
      have h2 := ho.2
      rw [if_neg hn] at h2
      obtain ⟨_, _, _, _, h4⟩ := h2
      exact ⟨.inr rfl, h4.mono (fun _ _ => rfl) (fun _ h => .inl h) rfl⟩
  · refine ⟨S, fun _ h => h, fun _ h => .inl h, main S (fun _ h => h) (fun _ h => .inl h) ?_⟩
    exact (h.head id _ he).go (fun _ _ => rfl) (fun _ h => h) (HdLe.refl _ _) rfl (fun _ => rfl) (fun _ => rfl)

end Rf
