/- Insertion sort, plain; and that what is sorted by names that differ is one list. -/
import Derived.Sort.Walk0
import Derived.Test.YtlenaaghkiedbaaRf29
namespace Rf
open Go

section
variable {α : Type} (less : α → α → Bool)

/-- the element at j goes down to its place -/
def bub : Nat → List α → List α
  | 0, l => l
  | j + 1, l => match l[j + 1]?, l[j]? with
    | some x, some y => bif less x y then bub j ((l.set (j + 1) y).set j x) else l
    | _, _ => l

/-- from the i-th on -/
def isortN : Nat → Nat → List α → List α
  | 0, _, l => l
  | d + 1, i, l => isortN d (i + 1) (bub less i l)

variable {less}

/-- an order by keys -/
structure LessOk (less : α → α → Bool) : Prop where
  tr : ∀ a b c, less b a = false → less c b = false → less c a = false
  to : ∀ a b, less a b = true → less b a = false

theorem bub_len : ∀ (j : Nat) (l : List α), (bub less j l).length = l.length
  | 0, l => rfl
  | j + 1, l => by
    simp only [bub]
    split
    · cases less _ _ with
      | true => rw [cond_true, bub_len j]; simp
      | false => rfl
    · rfl

theorem bub_ok (ho : LessOk less) (x : α) (rest : List α) : ∀ (j : Nat) (pre mid : List α), pre.length = j → pre.Pairwise (fun a b => less b a = false) → mid.Pairwise (fun a b => less b a = false) → (∀ m, m ∈ mid → less x m = true) →
    (∀ p m, p ∈ pre → m ∈ mid → less m p = false) → ∃ s, bub less j (pre ++ x :: (mid ++ rest)) = s ++ rest ∧ s.Perm (pre ++ x :: mid) ∧ s.Pairwise (fun a b => less b a = false)
  | 0, pre, mid, hl, h1, h2, h3, h4 => by
    obtain rfl : pre = [] := List.eq_nil_of_length_eq_zero hl
    exact ⟨x :: mid, rfl, .refl _, List.pairwise_cons.2 ⟨fun m hm => ho.to _ _ (h3 m hm), h2⟩⟩
  | j + 1, pre, mid, hl, h1, h2, h3, h4 => by
    obtain ⟨pre', y, rfl⟩ : ∃ p y, pre = p ++ [y] := by
      rcases List.eq_nil_or_concat pre with rfl | ⟨p, y, h⟩
      · simp at hl
      · exact ⟨p, y, by simpa using h⟩
    have hl' : pre'.length = j := by simpa using hl
    have gx : ((pre' ++ [y]) ++ x :: (mid ++ rest))[j + 1]? = some x := by
      rw [List.getElem?_append_right (by simp [hl'])]; simp [hl']
    have gy : ((pre' ++ [y]) ++ x :: (mid ++ rest))[j]? = some y := by
      rw [List.append_assoc, List.getElem?_append_right (by simp [hl'])]; simp [hl']
    have hset : ((((pre' ++ [y]) ++ x :: (mid ++ rest)).set (j + 1) y).set j x) = pre' ++ x :: ((y :: mid) ++ rest) := by
      subst hl'
      simp
    simp only [bub, gx, gy]
    have hp := List.pairwise_append.1 h1
    cases hc : less x y with
    | true =>
      rw [cond_true, hset]
      obtain ⟨s, q1, q2, q3⟩ := bub_ok ho x rest j pre' (y :: mid) hl' hp.1 (List.pairwise_cons.2 ⟨fun m hm => h4 y m (by simp) hm, h2⟩) (fun m hm => by
        rcases List.mem_cons.1 hm with rfl | hm
        · exact hc
        · exact h3 m hm) (fun p m hpm hm => by
        rcases List.mem_cons.1 hm with rfl | hm
        · exact hp.2.2 p hpm _ (by simp)
        · exact h4 p m (by simp [hpm]) hm)
      refine ⟨s, q1, q2.trans ?_, q3⟩
      rw [List.append_assoc]
      exact List.Perm.append_left _ (List.Perm.swap _ _ _)
    | false =>
      rw [cond_false]
      refine ⟨(pre' ++ [y]) ++ x :: mid, by simp, .refl _, List.pairwise_append.2 ⟨h1, List.pairwise_cons.2 ⟨fun m hm => ho.to _ _ (h3 m hm), h2⟩, fun p hpm m hm => ?_⟩⟩
      rcases List.mem_cons.1 hm with rfl | hm
      · rcases List.mem_append.1 hpm with hpm | hpm
        · exact ho.tr _ _ _ (hp.2.2 p hpm y (by simp)) hc
        · have : p = y := by simpa using hpm
          subst this; exact hc
      · exact h4 p m hpm hm

theorem isortN_ok (ho : LessOk less) : ∀ (d : Nat) (s rest : List α), rest.length = d → s.Pairwise (fun a b => less b a = false) → ∃ r, isortN less d s.length (s ++ rest) = r ∧ r.Perm (s ++ rest) ∧ r.Pairwise (fun a b => less b a = false)
  | 0, s, rest, hl, h => by
    obtain rfl : rest = [] := List.eq_nil_of_length_eq_zero hl
    exact ⟨_, rfl, by simp [isortN], by simpa [isortN] using h⟩
  | d + 1, s, rest, hl, h => by
    cases rest with
    | nil => simp at hl
    | cons x rest =>
      obtain ⟨s', q1, q2, q3⟩ := bub_ok ho x rest s.length s [] rfl h .nil (fun m hm => by simp at hm) (fun p m _ hm => by simp at hm)
      simp only [List.nil_append] at q1
      have hsl : s'.length = s.length + 1 := by simpa using q2.length_eq
      obtain ⟨r, r1, r2, r3⟩ := isortN_ok ho d s' rest (by simpa using hl) q3
      refine ⟨r, ?_, r2.trans ?_, r3⟩
      · rw [isortN, q1, ← hsl]; exact r1
      · have := q2.append_right rest
        simpa using this

/-- sorted, by whatever way -/
def isort (less : α → α → Bool) (l : List α) : List α := isortN less (l.length - 1) 1 l

theorem isort_ok (ho : LessOk less) (l : List α) : (isort less l).Perm l ∧ (isort less l).Pairwise (fun a b => less b a = false) := by
  cases l with
  | nil => exact ⟨.refl _, .nil⟩
  | cons x l =>
    obtain ⟨r, h1, h2, h3⟩ := isortN_ok ho l.length [x] l rfl (by simp)
    unfold isort
    have : isortN less ((x :: l).length - 1) 1 (x :: l) = r := by simpa using h1
    rw [this]
    exact ⟨by simpa using h2, h3⟩

/-- of what has names that differ there is one sorted list -/
theorem isort_perm (ho : LessOk less) {l l' : List α} (hp : l.Perm l') (hd : ∀ a b, a ∈ l → b ∈ l → less a b = false → less b a = false → a = b) : isort less l = isort less l' := by
  obtain ⟨p1, s1⟩ := isort_ok ho l
  obtain ⟨p2, s2⟩ := isort_ok ho l'
  refine List.Perm.eq_of_pairwise (le := fun a b => less b a = false) (fun a b ha hb h1 h2 => ?_) s1 s2 ((p1.trans hp).trans p2.symm)
  exact hd a b (p1.mem_iff.1 ha) (hp.mem_iff.2 (p2.mem_iff.1 hb)) h2 h1

theorem isortN_map {β : Type} (f : β → α) : ∀ (d i : Nat) (l : List β), isortN less d i (l.map f) = (isortN (fun a b => less (f a) (f b)) d i l).map f := by
  have hb : ∀ (j : Nat) (l : List β), bub less j (l.map f) = (bub (fun a b => less (f a) (f b)) j l).map f := by
    intro j
    induction j with
    | zero => intro l; rfl
    | succ j ih =>
      intro l
      simp only [bub, List.getElem?_map]
      cases hx : l[j + 1]? with
      | none => rfl
      | some x =>
        cases hy : l[j]? with
        | none => rfl
        | some y =>
          simp only [Option.map_some]
          cases less (f x) (f y) with
          | true => rw [cond_true, cond_true, ← ih]; simp [List.map_set]
          | false => rfl
  intro d
  induction d with
  | zero => intro i l; rfl
  | succ d ih => intro i l; simp only [isortN]; rw [hb, ih]

theorem isort_map {β : Type} (f : β → α) (l : List β) : isort less (l.map f) = (isort (fun a b => less (f a) (f b)) l).map f := by
  unfold isort
  rw [List.length_map, isortN_map]

end

/-! ### by participant, then by number -/

def kless (a b : ByteArray × Int) : Bool := Op.bytesLess a.1.toList b.1.toList || (a.1.toList == b.1.toList && decide (a.2 < b.2))

theorem kless_iff (a b : ByteArray × Int) : kless a b = true ↔ a.1.toList < b.1.toList ∨ (a.1 = b.1 ∧ a.2 < b.2) := by
  unfold kless
  rw [Go.Proofs.bytesLess_eq, toList_eq]
  simp

theorem list_inj {a b : ByteArray} (h : a.toList = b.toList) : a = b := by
  have := toList_eq a b
  rw [h, beq_self_eq_true] at this
  exact of_decide_eq_true this.symm

theorem kle_iff (a b : ByteArray × Int) : kless b a = false ↔ ¬ b.1.toList < a.1.toList ∧ (b.1 = a.1 → ¬ b.2 < a.2) := by
  rw [Bool.eq_false_iff, ne_eq, kless_iff, not_or, not_and]

theorem kless_eq {a b : ByteArray × Int} (h1 : kless a b = false) (h2 : kless b a = false) : a = b := by
  rw [kle_iff] at h1 h2
  have e : a.1 = b.1 := list_inj (List.le_antisymm (List.not_lt.1 h2.1) (List.not_lt.1 h1.1))
  have h3 := h1.2 e
  have h4 := h2.2 e.symm
  obtain ⟨a1, a2⟩ := a
  obtain ⟨b1, b2⟩ := b
  simp only at e h3 h4
  rw [e, show a2 = b2 by omega]

theorem kless_ok : LessOk kless := by
  refine ⟨fun a b c h1 h2 => ?_, fun a b h => ?_⟩
  · rw [kle_iff] at h1 h2 ⊢
    have l1 : a.1.toList ≤ b.1.toList := List.not_lt.1 h1.1
    have l2 : b.1.toList ≤ c.1.toList := List.not_lt.1 h2.1
    refine ⟨fun h => List.not_lt.2 (List.le_trans l1 l2) h, fun e => ?_⟩
    rw [e] at l2
    have e1 : a.1 = b.1 := list_inj (List.le_antisymm l1 l2)
    have h3 := h1.2 e1.symm
    have h4 := h2.2 (e.trans e1)
    omega
  · rw [kle_iff]
    rw [kless_iff] at h
    rcases h with h | ⟨e, h⟩
    · exact ⟨fun h' => List.lt_irrefl _ (List.lt_trans h h'), fun e => by rw [e] at h; exact absurd h (List.lt_irrefl _)⟩
    · exact ⟨by rw [e]; exact List.lt_irrefl _, fun _ => by omega⟩

end Rf
