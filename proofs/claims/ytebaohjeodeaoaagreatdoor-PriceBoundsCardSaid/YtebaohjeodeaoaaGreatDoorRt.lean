/- Whole numbers and fractions: their texts, their sizes. Plain arithmetic. -/
import Derived.Test.YtebaohjeodeaoaaGreatDoorDig
set_option linter.unusedVariables false
set_option linter.unusedSimpArgs false
namespace Rf

/-! ### sizes -/
theorem dg_len_pow {b x k : Nat} (hb : 2 ≤ b) (h : x < 2 ^ k) : (dg b x).length ≤ k :=
  dg_len_le hb (Nat.lt_of_lt_of_le h (Nat.pow_le_pow_left hb k))

theorem dtext_len {x k : Nat} (h : x < 2 ^ k) : (dtext x).length ≤ k + 1 := by
  unfold dtext
  split
  · simp
  · have := dg_len_pow (b := 10) (by omega) h
    simp; omega

theorem pow_le16 (n : Nat) : 10 ^ n ≤ 2 ^ (4 * n) := by
  rw [Nat.pow_mul]
  exact Nat.pow_le_pow_left (by omega) n

theorem vD_lt2 {s : List UInt8} (h : ∀ c, c ∈ s → isD c = true) : vD s < 2 ^ (4 * s.length) := Nat.lt_of_lt_of_le (vD_lt h) (pow_le16 _)

theorem dtext_lt {n : Nat} : n < 2 ^ (4 * (dtext n).length) := by
  have := vD_lt2 (canon_dtext n).2.1
  rwa [vD_dtext] at this

theorem dtext_pos (n : Nat) : 1 ≤ (dtext n).length := by
  have := (canon_dtext n).1
  have := List.length_pos_iff.2 this
  omega

/-! ### texts -/
def ztext (z : Int) : List UInt8 := if z < 0 then 45 :: dtext z.natAbs else dtext z.natAbs
def rtext (r : Rat) : List UInt8 := if r.den = 1 then ztext r.num else ztext r.num ++ 47 :: dtext r.den

theorem isD_47 : isD 47 = false := by decide
theorem isD_45 : isD 45 = false := by decide

theorem canon_nd {c : UInt8} (hc : isD c = false) {l : List UInt8} (h : canon l) : c ∉ l := fun q => by
  have := h.2.1 c q
  rw [hc] at this; cases this

theorem canon_not45 {t : List UInt8} : ¬ canon (45 :: t) := fun h => canon_nd isD_45 h (by simp)

theorem ztext_no47 (z : Int) : (47 : UInt8) ∉ ztext z := by
  have := canon_nd isD_47 (canon_dtext z.natAbs)
  unfold ztext
  split
  · simp only [List.mem_cons, not_or]
    exact ⟨by decide, this⟩
  · exact this

theorem ztext_inj {a b : Int} (h : ztext a = ztext b) : a = b := by
  have h45 : ∀ n t, (45 : UInt8) :: t ≠ dtext n := fun n t q => canon_not45 (q ▸ canon_dtext n)
  unfold ztext at h
  split at h <;> split at h
  · have := dtext_inj (List.cons.inj h).2; omega
  · exact absurd h (h45 _ _)
  · exact absurd h.symm (h45 _ _)
  · have := dtext_inj h; omega

open Classical in
/-- the whole number whose text this is -/
noncomputable def pz (l : List UInt8) : Option Int := if h : ∃ z, l = ztext z then some h.choose else none

theorem pz_some {l : List UInt8} {z : Int} : pz l = some z ↔ l = ztext z := by
  unfold pz
  constructor
  · intro h
    split at h
    · rename_i hz
      cases h; exact hz.choose_spec
    · cases h
  · intro h
    have hz : ∃ z, l = ztext z := ⟨z, h⟩
    rw [dif_pos hz]
    congr 1
    exact ztext_inj (hz.choose_spec.symm.trans h)

theorem pz_none {l : List UInt8} : pz l = none ↔ ∀ z, l ≠ ztext z := by
  constructor
  · intro h z q
    rw [pz_some.2 q] at h; cases h
  · intro h
    unfold pz
    rw [dif_neg (fun ⟨z, q⟩ => h z q)]

theorem pz_neg {t : List UInt8} (hc : canon t) (h0 : vD t ≠ 0) : pz (45 :: t) = some (-(vD t : Int)) := by
  rw [pz_some]
  unfold ztext
  rw [if_pos (by omega)]
  congr 1
  rw [Int.natAbs_neg, Int.natAbs_natCast, dtext_vD hc]

theorem pz_neg_none {t : List UInt8} (h : ¬ (canon t ∧ vD t ≠ 0)) : pz (45 :: t) = none := by
  rw [pz_none]
  intro z q
  unfold ztext at q
  split at q
  · have q := (List.cons.inj q).2
    exact h ⟨q ▸ canon_dtext _, by rw [q, vD_dtext]; omega⟩
  · exact canon_not45 (q ▸ canon_dtext _)

theorem pz_pos {l : List UInt8} (hc : canon l) : pz l = some (vD l : Int) := by
  rw [pz_some]
  unfold ztext
  rw [if_neg (by omega), Int.natAbs_natCast, dtext_vD hc]

theorem pz_pos_none {l : List UInt8} (h45 : l.head? ≠ some 45) (hc : ¬ canon l) : pz l = none := by
  rw [pz_none]
  intro z q
  unfold ztext at q
  split at q
  · rw [q] at h45; exact h45 rfl
  · exact hc (q ▸ canon_dtext _)

theorem pz_lt {l : List UInt8} {z : Int} (h : pz l = some z) : z.natAbs < 2 ^ (4 * l.length) := by
  rw [pz_some] at h
  subst h
  unfold ztext
  split
  · exact Nat.lt_of_lt_of_le dtext_lt (Nat.pow_le_pow_right (by omega) (by simp; omega))
  · exact dtext_lt

/-! ### ahead of the first slash; behind it -/
def cutA (l : List UInt8) : List UInt8 := l.takeWhile (· != 47)
def cutB (l : List UInt8) : List UInt8 := (l.dropWhile (· != 47)).tail

theorem cut_no {l : List UInt8} (h : 47 ∉ l) : cutA l = l ∧ cutB l = [] := by
  have hp : ∀ x, x ∈ l → (x != 47) = true := fun x hx => by
    simp only [bne_iff_ne, ne_eq]
    intro q; exact h (q ▸ hx)
  unfold cutA cutB
  have e1 : l.takeWhile (· != 47) = l := by
    clear h
    induction l with
    | nil => rfl
    | cons a l ih => rw [List.takeWhile_cons, hp a (by simp)]; simp only [if_true]; rw [ih fun x hx => hp x (by simp [hx])]
  have e2 : l.dropWhile (· != 47) = [] := by
    clear h e1
    induction l with
    | nil => rfl
    | cons a l ih => rw [List.dropWhile_cons, hp a (by simp)]; simp only [if_true]; rw [ih fun x hx => hp x (by simp [hx])]
  exact ⟨e1, by rw [e2]; rfl⟩

theorem cut_at {a b : List UInt8} (h : 47 ∉ a) : cutA (a ++ 47 :: b) = a ∧ cutB (a ++ 47 :: b) = b := by
  unfold cutA cutB
  induction a with
  | nil => exact ⟨rfl, rfl⟩
  | cons x a ih =>
    simp only [List.mem_cons, not_or] at h
    obtain ⟨i1, i2⟩ := ih h.2
    have hx : (x != 47) = true := by
      simp only [bne_iff_ne, ne_eq]
      exact fun q => h.1 q.symm
    simp only [List.cons_append, List.takeWhile_cons, List.dropWhile_cons, hx, if_true]
    exact ⟨by rw [i1], i2⟩

theorem cut_join {l : List UInt8} (h : 47 ∈ l) : l = cutA l ++ 47 :: cutB l := by
  unfold cutA cutB
  induction l with
  | nil => simp at h
  | cons x l ih =>
    by_cases hx : x = 47
    · subst hx; rfl
    · have hb : (x != 47) = true := by simpa using hx
      have : 47 ∈ l := by
        rcases List.mem_cons.1 h with h | h
        · exact absurd h.symm hx
        · exact h
      simp only [List.takeWhile_cons, List.dropWhile_cons, hb, if_true, List.cons_append]
      rw [← ih this]

theorem cutA_no (l : List UInt8) : 47 ∉ cutA l := by
  unfold cutA
  induction l with
  | nil => simp
  | cons x l ih =>
    rw [List.takeWhile_cons]
    split
    · rename_i h
      have hx : x ≠ 47 := by simpa using h
      simp only [List.mem_cons, not_or]
      exact ⟨fun q => hx q.symm, ih⟩
    · simp

theorem cut_len (l : List UInt8) : (cutA l).length ≤ l.length ∧ (cutB l).length ≤ l.length := by
  by_cases h : 47 ∈ l
  · have := congrArg List.length (cut_join h)
    simp at this
    omega
  · obtain ⟨h1, h2⟩ := cut_no h
    rw [h1, h2]; simp

theorem rtext_has (r : Rat) : 47 ∈ rtext r ↔ r.den ≠ 1 := by
  unfold rtext
  split
  · rename_i h
    simp [h, ztext_no47]
  · rename_i h
    simp [h]

theorem rtext_inj {a b : Rat} (h : rtext a = rtext b) : a = b := by
  have hd : a.den = 1 ↔ b.den = 1 := by
    have h1 := rtext_has a
    have h2 := rtext_has b
    rw [h] at h1
    by_cases q : a.den = 1 <;> by_cases q' : b.den = 1 <;> simp_all
  unfold rtext at h
  by_cases q : a.den = 1
  · have q' := hd.1 q
    rw [if_pos q, if_pos q'] at h
    exact Rat.ext (ztext_inj h) (q.trans q'.symm)
  · have q' : ¬ b.den = 1 := fun h => q (hd.2 h)
    rw [if_neg q, if_neg q'] at h
    obtain ⟨a1, a2⟩ := cut_at (b := dtext a.den) (ztext_no47 a.num)
    obtain ⟨b1, b2⟩ := cut_at (b := dtext b.den) (ztext_no47 b.num)
    rw [h] at a1 a2
    exact Rat.ext (ztext_inj (a1.symm.trans b1)) (dtext_inj (a2.symm.trans b2))

open Classical in
/-- the fraction whose text this is -/
noncomputable def pr (l : List UInt8) : Option Rat := if h : ∃ r, l = rtext r then some h.choose else none

theorem pr_some {l : List UInt8} {r : Rat} : pr l = some r ↔ l = rtext r := by
  unfold pr
  constructor
  · intro h
    split at h
    · rename_i hz
      cases h; exact hz.choose_spec
    · cases h
  · intro h
    have hz : ∃ z, l = rtext z := ⟨r, h⟩
    rw [dif_pos hz]
    congr 1
    exact rtext_inj (hz.choose_spec.symm.trans h)

theorem pr_none {l : List UInt8} : pr l = none ↔ ∀ r, l ≠ rtext r := by
  constructor
  · intro h z q
    rw [pr_some.2 q] at h; cases h
  · intro h
    unfold pr
    rw [dif_neg (fun ⟨z, q⟩ => h z q)]

/-! ### how great at most -/
def Bd (k : Nat) (r : Rat) : Prop := r.num.natAbs < 2 ^ k ∧ r.den < 2 ^ k

theorem Bd.mono {k m : Nat} {r : Rat} (h : Bd k r) (hkm : k ≤ m) : Bd m r :=
  ⟨Nat.lt_of_lt_of_le h.1 (Nat.pow_le_pow_right (by omega) hkm), Nat.lt_of_lt_of_le h.2 (Nat.pow_le_pow_right (by omega) hkm)⟩

theorem divInt_le (a b : Int) (hb : b ≠ 0) : (Rat.divInt a b).num.natAbs ≤ a.natAbs ∧ (Rat.divInt a b).den ≤ b.natAbs := by
  have hg : (b.gcd a : Int) ∣ a := Int.gcd_dvd_right _ _
  have hg0 : 0 < b.gcd a := Int.gcd_pos_of_ne_zero_left _ hb
  constructor
  · rw [Rat.num_divInt, Int.mul_ediv_assoc _ hg, Int.natAbs_mul]
    have h1 : b.sign.natAbs = 1 := by
      rcases Int.lt_or_gt_of_ne hb with h | h
      · rw [Int.sign_eq_neg_one_of_neg h]; rfl
      · rw [Int.sign_eq_one_of_pos h]; rfl
    rw [h1, Nat.one_mul, Int.natAbs_ediv_of_dvd hg, Int.natAbs_natCast]
    exact Nat.div_le_self _ _
  · rw [Rat.den_divInt, if_neg hb]
    exact Nat.div_le_self _ _

theorem add_divInt (r s : Rat) : r + s = Rat.divInt (r.num * s.den + s.num * r.den) (r.den * s.den) := by
  have hr : (r.den : Int) ≠ 0 := by have := r.den_nz; omega
  have hs : (s.den : Int) ≠ 0 := by have := s.den_nz; omega
  rw [← Rat.divInt_add_divInt _ _ hr hs, Rat.num_divInt_den, Rat.num_divInt_den]

theorem sub_divInt (r s : Rat) : r - s = Rat.divInt (r.num * s.den - s.num * r.den) (r.den * s.den) := by
  have hr : (r.den : Int) ≠ 0 := by have := r.den_nz; omega
  have hs : (s.den : Int) ≠ 0 := by have := s.den_nz; omega
  rw [← Rat.divInt_sub_divInt _ _ hr hs, Rat.num_divInt_den, Rat.num_divInt_den]

theorem mul_divInt (r s : Rat) : r * s = Rat.divInt (r.num * s.num) (r.den * s.den) := by
  rw [← Rat.divInt_mul_divInt, Rat.num_divInt_den, Rat.num_divInt_den]

theorem den_mul_ne (r s : Rat) : ((r.den : Int) * (s.den : Int)) ≠ 0 := by
  have hr : (r.den : Int) ≠ 0 := by have := r.den_nz; omega
  have hs : (s.den : Int) ≠ 0 := by have := s.den_nz; omega
  exact Int.mul_ne_zero hr hs

theorem natAbs_den (r s : Rat) : ((r.den : Int) * (s.den : Int)).natAbs = r.den * s.den := by rw [Int.natAbs_mul]; rfl

theorem lt_pow_mul {a b k m : Nat} (h : a < 2 ^ k) (h' : b < 2 ^ m) : a * b < 2 ^ (k + m) := by
  rw [Nat.pow_add]
  exact Nat.mul_lt_mul'' h h'

theorem Bd.mul {k m : Nat} {r s : Rat} (h : Bd k r) (h' : Bd m s) : Bd (k + m) (r * s) := by
  rw [mul_divInt]
  obtain ⟨h1, h2⟩ := divInt_le (r.num * s.num) (r.den * s.den) (den_mul_ne r s)
  rw [Int.natAbs_mul] at h1
  rw [natAbs_den] at h2
  exact ⟨Nat.lt_of_le_of_lt h1 (lt_pow_mul h.1 h'.1), Nat.lt_of_le_of_lt h2 (lt_pow_mul h.2 h'.2)⟩

theorem cross_lt {k m : Nat} {r s : Rat} (h : Bd k r) (h' : Bd m s) : (r.num * s.den).natAbs < 2 ^ (k + m) ∧ (s.num * r.den).natAbs < 2 ^ (k + m) := by
  rw [Int.natAbs_mul, Int.natAbs_mul, Int.natAbs_natCast, Int.natAbs_natCast]
  exact ⟨lt_pow_mul h.1 h'.2, by rw [Nat.add_comm k]; exact lt_pow_mul h'.1 h.2⟩

theorem Bd.add {k m : Nat} {r s : Rat} (h : Bd k r) (h' : Bd m s) : Bd (k + m + 1) (r + s) := by
  rw [add_divInt]
  obtain ⟨h1, h2⟩ := divInt_le (r.num * s.den + s.num * r.den) (r.den * s.den) (den_mul_ne r s)
  rw [natAbs_den] at h2
  obtain ⟨c1, c2⟩ := cross_lt h h'
  have := lt_pow_mul h.2 h'.2
  rw [Bd, Nat.pow_succ]
  constructor <;> omega

theorem Bd.neg {k : Nat} {r : Rat} (h : Bd k r) : Bd k (-r) := by
  refine ⟨?_, h.2⟩
  show (-r.num).natAbs < _
  rw [Int.natAbs_neg]; exact h.1

theorem Bd.sub {k m : Nat} {r s : Rat} (h : Bd k r) (h' : Bd m s) : Bd (k + m + 1) (r - s) := by
  rw [Rat.sub_eq_add_neg]
  exact h.add h'.neg

theorem Bd.int {k : Nat} {z : Int} (h : z.natAbs < 2 ^ k) (hk : 1 ≤ k) : Bd k (z : Rat) := by
  refine ⟨h, ?_⟩
  show 1 < 2 ^ k
  exact Nat.one_lt_two_pow (by omega)

theorem ztext_len {z : Int} {k : Nat} (h : z.natAbs < 2 ^ k) : (ztext z).length ≤ k + 2 := by
  have := dtext_len h
  unfold ztext
  split <;> simp <;> omega

theorem Bd.len {k : Nat} {r : Rat} (h : Bd k r) : (rtext r).length ≤ 2 * k + 4 := by
  have h1 := ztext_len h.1
  have h2 := dtext_len h.2
  unfold rtext
  split
  · omega
  · simp; omega

theorem Bd.of {r : Rat} : Bd (4 * (rtext r).length) r := by
  have hz : r.num.natAbs < 2 ^ (4 * (ztext r.num).length) := pz_lt (pz_some.2 rfl)
  have hp : 1 ≤ (ztext r.num).length := by
    have := dtext_pos r.num.natAbs
    unfold ztext; split <;> simp <;> omega
  unfold rtext
  split
  · rename_i h
    exact ⟨hz, by rw [h]; exact Nat.one_lt_two_pow (by omega)⟩
  · refine ⟨Nat.lt_of_lt_of_le hz (Nat.pow_le_pow_right (by omega) (by simp; omega)), Nat.lt_of_lt_of_le dtext_lt (Nat.pow_le_pow_right (by omega) (by simp; omega))⟩

theorem pr_bd {l : List UInt8} {r : Rat} (h : pr l = some r) : Bd (4 * l.length) r := by
  rw [pr_some] at h
  subst h; exact Bd.of

end Rf
