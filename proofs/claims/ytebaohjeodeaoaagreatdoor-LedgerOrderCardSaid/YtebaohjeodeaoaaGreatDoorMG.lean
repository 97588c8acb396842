/- Texts of this work put together: Dig, Rt, Wrd, Ext, Txt, Led, Lex, Lfv. -/
import Derived.Calls
import Derived.Test.YtebaohjeodeaoaaGreatDoorMF
import Derived.Test.YtebaohjeodeaoaaGreatDoorMA
import Derived.Laws.Sem
import Derived.Sort.Walk0

section
/- Digits of a number to a base, the lowest first: plain arithmetic. -/
set_option linter.unusedVariables false
set_option linter.unusedSimpArgs false
namespace Rf

/-- what digits are worth -/
def vl (b : Nat) : List Nat → Nat
  | [] => 0
  | d :: l => d + b * vl b l

/-- the digits of a number, no nought highest -/
def dg (b : Nat) (n : Nat) : List Nat :=
  if h : n = 0 ∨ b < 2 then [] else n % b :: dg b (n / b)
termination_by n
decreasing_by
  have h1 : 0 < n := by omega
  exact Nat.div_lt_self h1 (by omega)

/-- without the noughts on top -/
def tz : List Nat → List Nat
  | [] => []
  | d :: l => if d = 0 ∧ tz l = [] then [] else d :: tz l

def Dg (b : Nat) (l : List Nat) : Prop := ∀ d, d ∈ l → d < b

theorem dg_zero (b : Nat) : dg b 0 = [] := by rw [dg]; simp
theorem dg_pos {b n : Nat} (hb : 2 ≤ b) (hn : n ≠ 0) : dg b n = n % b :: dg b (n / b) := by
  rw [dg, dif_neg (by omega)]

theorem vl_dg {b : Nat} (hb : 2 ≤ b) (n : Nat) : vl b (dg b n) = n := by
  induction n using Nat.strongRecOn with
  | _ n ih =>
    by_cases hn : n = 0
    · subst hn; rw [dg_zero]; rfl
    · rw [dg_pos hb hn, vl, ih (n / b) (Nat.div_lt_self (by omega) (by omega))]
      exact Nat.mod_add_div n b

theorem dg_Dg {b : Nat} (hb : 2 ≤ b) (n : Nat) : Dg b (dg b n) := by
  induction n using Nat.strongRecOn with
  | _ n ih =>
    by_cases hn : n = 0
    · subst hn; rw [dg_zero]; intro d h; cases h
    · rw [dg_pos hb hn]
      intro d h
      rcases List.mem_cons.1 h with rfl | h
      · exact Nat.mod_lt _ (by omega)
      · exact ih (n / b) (Nat.div_lt_self (by omega) (by omega)) d h

theorem dg_nil {b : Nat} (hb : 2 ≤ b) {n : Nat} : dg b n = [] ↔ n = 0 := by
  constructor
  · intro h
    by_cases hn : n = 0
    · exact hn
    · rw [dg_pos hb hn] at h; cases h
  · rintro rfl; exact dg_zero b

theorem Dg.tail {b d : Nat} {l : List Nat} (h : Dg b (d :: l)) : d < b ∧ Dg b l := ⟨h d (by simp), fun x hx => h x (by simp [hx])⟩
theorem Dg.cons {b d : Nat} {l : List Nat} (hd : d < b) (h : Dg b l) : Dg b (d :: l) := fun x hx => by
  rcases List.mem_cons.1 hx with rfl | hx
  · exact hd
  · exact h x hx
theorem Dg.app {b : Nat} {l m : List Nat} (h : Dg b l) (h' : Dg b m) : Dg b (l ++ m) := fun x hx => by
  rcases List.mem_append.1 hx with hx | hx
  · exact h x hx
  · exact h' x hx

/-- digits without noughts on top are the digits of what they are worth -/
theorem dg_vl {b : Nat} (hb : 2 ≤ b) : ∀ {l : List Nat}, Dg b l → dg b (vl b l) = tz l
  | [], _ => dg_zero b
  | d :: l, h => by
    obtain ⟨hd, hl⟩ := h.tail
    have ih := dg_vl hb hl
    simp only [vl, tz]
    by_cases h0 : d + b * vl b l = 0
    · have h1 : d = 0 := by omega
      have h2 : vl b l = 0 := by
        have : b * vl b l = 0 := by omega
        rcases Nat.mul_eq_zero.1 this with h | h
        · omega
        · exact h
      rw [h0, dg_zero, if_pos ⟨h1, by rw [← ih, h2, dg_zero]⟩]
    · rw [dg_pos hb h0, Nat.add_mul_mod_self_left, Nat.mod_eq_of_lt hd, Nat.add_mul_div_left _ _ (by omega), Nat.div_eq_of_lt hd, Nat.zero_add, ih, if_neg]
      rintro ⟨h1, h2⟩
      rw [← ih] at h2
      have := (dg_nil hb).1 h2
      rw [h1, this] at h0
      exact h0 (by simp)

theorem vl_app (b : Nat) : ∀ (l m : List Nat), vl b (l ++ m) = vl b l + b ^ l.length * vl b m
  | [], m => by simp [vl]
  | d :: l, m => by
    simp only [List.cons_append, vl, vl_app b l m, List.length_cons, Nat.pow_succ]
    rw [Nat.mul_add, Nat.mul_comm (b ^ l.length) b, Nat.mul_assoc]; omega

theorem vl_lt {b : Nat} (hb : 1 ≤ b) : ∀ {l : List Nat}, Dg b l → vl b l < b ^ l.length
  | [], _ => by simp [vl]
  | d :: l, h => by
    obtain ⟨hd, hl⟩ := h.tail
    have ih := vl_lt hb hl
    simp only [vl, List.length_cons, Nat.pow_succ]
    have : b * vl b l + b ≤ b * b ^ l.length := by
      rw [← Nat.mul_succ]; exact Nat.mul_le_mul_left b ih
    rw [Nat.mul_comm (b ^ l.length) b]
    omega

theorem tz_dg {b : Nat} (hb : 2 ≤ b) (n : Nat) : tz (dg b n) = dg b n := by
  rw [← dg_vl hb (dg_Dg hb n), vl_dg hb]

theorem tz_snoc_zero : ∀ (l : List Nat), tz (l ++ [0]) = tz l
  | [] => rfl
  | d :: l => by simp only [List.cons_append, tz, tz_snoc_zero l]

theorem tz_snoc {d : Nat} (hd : d ≠ 0) : ∀ (l : List Nat), tz (l ++ [d]) = l ++ [d]
  | [] => by simp [tz, hd]
  | x :: l => by
    simp only [List.cons_append, tz, tz_snoc hd l]
    rw [if_neg (by simp)]

theorem tz_len : ∀ (l : List Nat), (tz l).length ≤ l.length
  | [] => Nat.le_refl _
  | d :: l => by
    simp only [tz]
    have := tz_len l
    split
    · simp
    · simp; exact this

/-- the top digit of a number is none of nought -/
theorem dg_last {b : Nat} (hb : 2 ≤ b) {n : Nat} {l : List Nat} {d : Nat} (h : dg b n = l ++ [d]) : d ≠ 0 := by
  intro h0
  have h1 := tz_dg hb n
  rw [h, h0, tz_snoc_zero] at h1
  have := tz_len l
  have := congrArg List.length h1
  simp at this
  omega

/-- how many digits -/
theorem dg_len_le {b : Nat} (hb : 2 ≤ b) {n k : Nat} (h : n < b ^ k) : (dg b n).length ≤ k := by
  induction k generalizing n with
  | zero => have : n = 0 := by simpa using h
            subst this; rw [dg_zero]; exact Nat.zero_le _
  | succ k ih =>
    by_cases hn : n = 0
    · subst hn; rw [dg_zero]; exact Nat.zero_le _
    · rw [dg_pos hb hn, List.length_cons]
      have : n / b < b ^ k := by
        rw [Nat.div_lt_iff_lt_mul (by omega)]
        rw [Nat.pow_succ] at h; exact h
      have := ih this
      omega

theorem dg_lt_pow {b : Nat} (hb : 2 ≤ b) (n : Nat) : n < b ^ (dg b n).length := by
  have := vl_lt (b := b) (by omega) (dg_Dg hb n)
  rwa [vl_dg hb] at this

theorem pow_le_dg {b : Nat} (hb : 2 ≤ b) {n : Nat} (hn : n ≠ 0) : b ^ ((dg b n).length - 1) ≤ n := by
  induction n using Nat.strongRecOn with
  | _ n ih =>
    rw [dg_pos hb hn, List.length_cons, Nat.add_sub_cancel]
    by_cases h0 : n / b = 0
    · rw [h0, dg_zero]; simp; omega
    · have h1 := ih (n / b) (Nat.div_lt_self (by omega) (by omega)) h0
      have h2 : (dg b (n / b)).length ≠ 0 := fun h => h0 ((dg_nil hb).1 (List.length_eq_zero_iff.1 h))
      have : b ^ (dg b (n / b)).length = b ^ ((dg b (n / b)).length - 1) * b := by
        rw [← Nat.pow_succ]; congr 1; omega
      rw [this]
      exact Nat.le_trans (Nat.mul_le_mul_right b h1) (Nat.div_mul_le_self n b)

/-- fewer digits: less -/
theorem lt_of_len {b : Nat} (hb : 2 ≤ b) {m n : Nat} (h : (dg b m).length < (dg b n).length) : m < n := by
  have hn : n ≠ 0 := fun h0 => by subst h0; rw [dg_zero] at h; cases h
  have h1 := dg_lt_pow hb m
  have h2 := pow_le_dg hb hn
  have h3 : b ^ (dg b m).length ≤ b ^ ((dg b n).length - 1) := Nat.pow_le_pow_right (by omega) (by omega)
  omega

/-- a digit more at the top -/
theorem vl_snoc (b : Nat) (l : List Nat) (d : Nat) : vl b (l ++ [d]) = vl b l + b ^ l.length * d := by
  rw [vl_app]; simp [vl]

/-- as many digits: the highest that parts them decides -/
theorem vl_cmp {b : Nat} (hb : 1 ≤ b) {l m : List Nat} {x y : Nat} (h : Dg b l) (h' : Dg b m) (hlen : l.length = m.length) (hxy : x < y) (r : List Nat) : vl b (l ++ x :: r) < vl b (m ++ y :: r) := by
  rw [vl_app, vl_app]
  simp only [vl]
  have h1 := vl_lt hb h
  rw [hlen] at h1 ⊢
  have h2 : b ^ m.length * x + b ^ m.length ≤ b ^ m.length * y := by
    rw [← Nat.mul_succ]; exact Nat.mul_le_mul_left _ hxy
  rw [Nat.mul_add, Nat.mul_add]
  omega

/-! ### adding, taking away -/
def addL (B : Nat) : List Nat → List Nat → Nat → List Nat
  | [], _, c => [c]
  | x :: a, b, c => ((c + x + b.headD 0) % B) :: addL B a b.tail ((c + x + b.headD 0) / B)

theorem vl_head (B : Nat) (b : List Nat) : vl B b = b.headD 0 + B * vl B b.tail := by
  cases b with
  | nil => simp [vl]
  | cons x b => rfl

theorem Dg.headD {B : Nat} (hB : 0 < B) {b : List Nat} (h : Dg B b) : b.headD 0 < B := by
  cases b with
  | nil => simpa using hB
  | cons x b => exact h x (by simp)
theorem Dg.tl {B : Nat} {b : List Nat} (h : Dg B b) : Dg B b.tail := fun x hx => h x (List.mem_of_mem_tail hx)

theorem vl_addL {B : Nat} : ∀ (a b : List Nat) (c : Nat), b.length ≤ a.length → vl B (addL B a b c) = vl B a + vl B b + c
  | [], b, c, h => by
    have : b = [] := List.eq_nil_of_length_eq_zero (by simpa using h)
    subst this
    simp [addL, vl]
  | x :: a, b, c, h => by
    have ih := vl_addL (B := B) a b.tail ((c + x + b.headD 0) / B) (by rw [List.length_tail]; simp at h; omega)
    simp only [addL, vl, ih]
    have h1 := vl_head B b
    have h2 := Nat.mod_add_div (c + x + b.headD 0) B
    rw [Nat.mul_add, Nat.mul_add]
    omega

theorem addL_Dg {B : Nat} (hB : 2 ≤ B) : ∀ (a b : List Nat) (c : Nat), Dg B a → Dg B b → c ≤ 1 → Dg B (addL B a b c)
  | [], _, c, _, _, hc => by
    intro d hd
    simp only [addL, List.mem_singleton] at hd
    omega
  | x :: a, b, c, ha, hb, hc => by
    obtain ⟨hx, ha'⟩ := ha.tail
    have hy := hb.headD (by omega)
    refine Dg.cons (Nat.mod_lt _ (by omega)) (addL_Dg hB a b.tail _ ha' hb.tl ?_)
    have : c + x + b.headD 0 < 2 * B := by omega
    have := Nat.div_lt_of_lt_mul (m := c + x + b.headD 0) (n := B) (k := 2) (by rw [Nat.mul_comm]; exact this)
    omega

theorem addL_len {B : Nat} : ∀ (a b : List Nat) (c : Nat), (addL B a b c).length = a.length + 1
  | [], _, _ => rfl
  | _ :: a, b, _ => by simp only [addL, List.length_cons, addL_len a b.tail]

/-- less, digit by digit; what is borrowed in the end -/
def subL (B : Nat) : List Nat → List Nat → Nat → List Nat × Nat
  | [], _, c => ([], c)
  | x :: a, b, c =>
    let r := subL B a b.tail (if x < b.headD 0 + c then 1 else 0)
    ((B + x - b.headD 0 - c) % B :: r.1, r.2)

theorem vl_subL {B : Nat} (hB : 2 ≤ B) : ∀ (a b : List Nat) (c : Nat), Dg B a → Dg B b → c ≤ 1 → b.length ≤ a.length →
    vl B (subL B a b c).1 + vl B b + c = vl B a + B ^ a.length * (subL B a b c).2 ∧ Dg B (subL B a b c).1 ∧ (subL B a b c).1.length = a.length ∧ (subL B a b c).2 ≤ 1
  | [], b, c, _, _, hc, h => by
    have : b = [] := List.eq_nil_of_length_eq_zero (by simpa using h)
    subst this
    refine ⟨by simp [subL, vl], fun d hd => by simp [subL] at hd, rfl, by simpa [subL] using hc⟩
  | x :: a, b, c, ha, hb, hc, h => by
    obtain ⟨hx, ha'⟩ := ha.tail
    have hy := hb.headD (by omega)
    obtain ⟨h1, h2, h3, h4⟩ := vl_subL hB a b.tail (if x < b.headD 0 + c then 1 else 0) ha' hb.tl (by split <;> omega) (by rw [List.length_tail]; simp at h; omega)
    have hh := vl_head B b
    simp only [subL]
    refine ⟨?_, Dg.cons (Nat.mod_lt _ (by omega)) h2, by simp only [List.length_cons, h3], h4⟩
    simp only [vl, List.length_cons, Nat.pow_succ]
    generalize (subL B a b.tail (if x < b.headD 0 + c then 1 else 0)).2 = o at h1 h4 ⊢
    generalize vl B (subL B a b.tail (if x < b.headD 0 + c then 1 else 0)).1 = V at h1 ⊢
    have e : B * V + B * vl B b.tail + B * (if x < b.headD 0 + c then 1 else 0) = B * vl B a + B ^ a.length * B * o := by
      rw [← Nat.mul_add, ← Nat.mul_add, h1, Nat.mul_add, Nat.mul_comm (B ^ a.length) B, Nat.mul_assoc]
    by_cases hlt : x < b.headD 0 + c
    · rw [if_pos hlt] at e
      by_cases hz : B + x - b.headD 0 - c < B
      · rw [Nat.mod_eq_of_lt hz]; omega
      · omega
    · rw [if_neg hlt] at e
      have : B + x - b.headD 0 - c = (x - b.headD 0 - c) + B := by omega
      rw [this, Nat.add_mod_right, Nat.mod_eq_of_lt (by omega)]
      omega

/-! ### by one digit -/
def mulL (B : Nat) : List Nat → Nat → Nat → List Nat
  | [], _, c => [c]
  | x :: a, k, c => ((c + x * k) % B) :: mulL B a k ((c + x * k) / B)

theorem vl_mulL {B : Nat} : ∀ (a : List Nat) (k c : Nat), vl B (mulL B a k c) = vl B a * k + c
  | [], k, c => by simp [mulL, vl]
  | x :: a, k, c => by
    simp only [mulL, vl, vl_mulL a k]
    have h2 := Nat.mod_add_div (c + x * k) B
    rw [Nat.mul_add, Nat.add_mul, Nat.mul_assoc]
    omega

theorem carry_lt {B c x k : Nat} (hx : x < B) (hk : k < B) (hc : c < B) : c + x * k < B * B := by
  have h1 : x * k ≤ (B - 1) * (B - 1) := Nat.mul_le_mul (by omega) (by omega)
  have h2 : (B - 1) * (B - 1) + B ≤ B * B := by
    obtain ⟨m, rfl⟩ : ∃ m, B = m + 1 := ⟨B - 1, by omega⟩
    simp only [Nat.add_sub_cancel]
    rw [Nat.mul_succ, Nat.succ_mul]; omega
  omega

theorem mulL_Dg {B : Nat} : ∀ (a : List Nat) (k c : Nat), Dg B a → k < B → c < B → Dg B (mulL B a k c)
  | [], k, c, _, _, hc => fun d hd => by simp only [mulL, List.mem_singleton] at hd; omega
  | x :: a, k, c, ha, hk, hc => by
    obtain ⟨hx, ha'⟩ := ha.tail
    exact Dg.cons (Nat.mod_lt _ (by omega)) (mulL_Dg a k _ ha' hk (Nat.div_lt_of_lt_mul (carry_lt hx hk hc)))

theorem mulL_len {B : Nat} : ∀ (a : List Nat) (k c : Nat), (mulL B a k c).length = a.length + 1
  | [], _, _ => rfl
  | _ :: a, k, _ => by simp only [mulL, List.length_cons, mulL_len a k]

/-- from the top down: what is left, and the digits -/
def divL (B k : Nat) : List Nat → Nat × List Nat
  | [] => (0, [])
  | d :: l => let r := divL B k l; ((r.1 * B + d) % k, (r.1 * B + d) / k :: r.2)

theorem divL_ok {B k : Nat} (hk : 0 < k) : ∀ (l : List Nat), Dg B l → vl B l = k * vl B (divL B k l).2 + (divL B k l).1 ∧ (divL B k l).1 < k ∧ Dg B (divL B k l).2 ∧ (divL B k l).2.length = l.length
  | [], _ => ⟨by simp [divL, vl], hk, fun d h => by simp [divL] at h, rfl⟩
  | d :: l, h => by
    obtain ⟨hd, hl⟩ := h.tail
    obtain ⟨h1, h2, h3, h4⟩ := divL_ok hk l hl
    simp only [divL]
    refine ⟨?_, Nat.mod_lt _ hk, Dg.cons ?_ h3, by simp [h4]⟩
    · simp only [vl]
      generalize (divL B k l).1 = r at *
      generalize vl B (divL B k l).2 = q at *
      have e := Nat.div_add_mod (r * B + d) k
      rw [Nat.mul_add, h1, Nat.mul_add, Nat.mul_left_comm k B q, Nat.mul_comm r B] at *
      omega
    · rw [Nat.div_lt_iff_lt_mul hk]
      have : ((divL B k l).1 + 1) * B ≤ k * B := Nat.mul_le_mul_right B h2
      rw [Nat.succ_mul] at this
      rw [Nat.mul_comm B k]
      omega

/-! ### two numbers multiplied -/
/-- a row: so many times b is laid on what is there, from the lowest on; what is carried stands behind it -/
def maRow (B : Nat) : List Nat → List Nat → Nat → Nat → List Nat
  | acc, [], _, c => acc.set 0 c
  | [], _ :: _, _, _ => []
  | h :: t, y :: b, x, c => ((c + (h + x * y)) % B) :: maRow B t b x ((c + (h + x * y)) / B)

theorem maRow_ok {B : Nat} (hB : 2 ≤ B) : ∀ (acc b rest : List Nat) (x c : Nat), acc.length = b.length → Dg B acc → Dg B b → x < B → c < B →
    ∃ w, maRow B (acc ++ 0 :: rest) b x c = w ++ rest ∧ w.length = b.length + 1 ∧ Dg B w ∧ vl B w = vl B acc + x * vl B b + c
  | [], [], rest, x, c, _, _, _, _, hc => ⟨[c], by simp [maRow], rfl, fun d hd => by simp at hd; omega, by simp [vl]⟩
  | [], _ :: _, _, _, _, h, _, _, _, _ => by simp at h
  | _ :: _, [], _, _, _, h, _, _, _, _ => by simp at h
  | a :: acc, y :: b, rest, x, c, h, ha, hb, hx, hc => by
    obtain ⟨ha1, ha2⟩ := ha.tail
    obtain ⟨hb1, hb2⟩ := hb.tail
    have hlt : c + (a + x * y) < B * B := by
      have h1 : x * y ≤ (B - 1) * (B - 1) := Nat.mul_le_mul (by omega) (by omega)
      have h2 : (B - 1) * (B - 1) + (B - 1) + B ≤ B * B := by
        obtain ⟨m, rfl⟩ : ∃ m, B = m + 1 := ⟨B - 1, by omega⟩
        simp only [Nat.add_sub_cancel]
        rw [Nat.mul_succ, Nat.succ_mul]; omega
      omega
    obtain ⟨w, h1, h2, h3, h4⟩ := maRow_ok hB acc b rest x ((c + (a + x * y)) / B) (by simpa using h) ha2 hb2 hx (Nat.div_lt_of_lt_mul hlt)
    refine ⟨(c + (a + x * y)) % B :: w, by simp [maRow, h1], by simp [h2], Dg.cons (Nat.mod_lt _ (by omega)) h3, ?_⟩
    simp only [vl, h4]
    have e := Nat.mod_add_div (c + (a + x * y)) B
    rw [Nat.mul_add, Nat.mul_add, Nat.mul_add, Nat.mul_left_comm B x]
    omega

/-- all rows -/
def mulO (B : Nat) : List Nat → List Nat → List Nat → List Nat
  | [], acc, _ => acc
  | x :: a, acc, b => match maRow B acc b x 0 with
    | [] => []
    | d :: t => d :: mulO B a t b

theorem mulO_ok {B : Nat} (hB : 2 ≤ B) : ∀ (a w b : List Nat), w.length = b.length → Dg B w → Dg B b → Dg B a →
    vl B (mulO B a (w ++ List.replicate a.length 0) b) = vl B w + vl B a * vl B b ∧ Dg B (mulO B a (w ++ List.replicate a.length 0) b) ∧ (mulO B a (w ++ List.replicate a.length 0) b).length = a.length + b.length
  | [], w, b, h, hw, hb, _ => by simp [mulO, vl, h, hw]
  | x :: a, w, b, h, hw, hb, ha => by
    obtain ⟨hx, ha'⟩ := ha.tail
    obtain ⟨w', h1, h2, h3, h4⟩ := maRow_ok hB w b (List.replicate a.length 0) x 0 h hw hb hx (by omega)
    simp only [List.length_cons, List.replicate_succ, mulO, h1]
    cases w' with
    | nil => simp at h2
    | cons d t =>
      simp only [List.cons_append]
      obtain ⟨hd, ht⟩ := h3.tail
      obtain ⟨g1, g2, g3⟩ := mulO_ok hB a t b (by simpa using h2) ht hb ha'
      refine ⟨?_, Dg.cons hd g2, by simp [g3]; omega⟩
      simp only [vl] at h4 ⊢
      rw [g1, Nat.mul_add, Nat.add_mul]
      have : B * (vl B a * vl B b) = B * vl B a * vl B b := (Nat.mul_assoc _ _ _).symm
      omega

/-! ### long division -/
/-- so many times taken away, with what is carried and what is borrowed -/
def msL (B : Nat) : List Nat → List Nat → Nat → Nat → Nat → List Nat × Nat
  | [], _, _, _, br => ([], br)
  | [u], [], _, ca, br => ([(B + u - ca % B - br) % B], if u < ca % B + br then 1 else 0)
  | u :: us, [], g, ca, br => let r := msL B us [] g (ca / B) (if u < ca % B + br then 1 else 0); ((B + u - ca % B - br) % B :: r.1, r.2)
  | u :: us, v :: vs, g, ca, br =>
    let r := msL B us vs g ((ca + g * v) / B) (if u < (ca + g * v) % B + br then 1 else 0)
    ((B + u - (ca + g * v) % B - br) % B :: r.1, r.2)

theorem sub_digit {B u y br : Nat} (hu : u < B) (hy : y < B) (hb : br ≤ 1) : (B + u - y - br) % B + y + br = u + B * (if u < y + br then 1 else 0) ∧ (B + u - y - br) % B < B := by
  refine ⟨?_, Nat.mod_lt _ (by omega)⟩
  by_cases h : u < y + br
  · rw [if_pos h]
    by_cases hz : B + u - y - br < B
    · rw [Nat.mod_eq_of_lt hz]; omega
    · omega
  · rw [if_neg h]
    have : B + u - y - br = (u - y - br) + B := by omega
    rw [this, Nat.add_mod_right, Nat.mod_eq_of_lt (by omega)]
    omega

/-- one digit more above: n + 1 of them less g times n -/
theorem msL_ok {B : Nat} (hB : 2 ≤ B) : ∀ (us vs : List Nat) (g ca br : Nat), us.length = vs.length + 1 → Dg B us → Dg B vs → g < B → ca < B → br ≤ 1 →
    vl B (msL B us vs g ca br).1 + g * vl B vs + ca + br = vl B us + B ^ us.length * (msL B us vs g ca br).2 ∧ Dg B (msL B us vs g ca br).1 ∧ (msL B us vs g ca br).1.length = us.length ∧ (msL B us vs g ca br).2 ≤ 1
  | [], _, _, _, _, h, _, _, _, _, _ => by simp at h
  | [u], [], g, ca, br, _, hu, _, _, hc, hb => by
    obtain ⟨e1, e2⟩ := sub_digit (hu u (by simp)) hc hb
    simp only [msL, Nat.mod_eq_of_lt hc]
    refine ⟨?_, fun d hd => by simp only [List.mem_singleton] at hd; omega, rfl, by split <;> omega⟩
    simp only [vl, List.length_singleton, Nat.pow_one, Nat.mul_zero, Nat.add_zero]
    omega
  | _ :: _ :: _, [], _, _, _, h, _, _, _, _, _ => by simp at h
  | u :: us, v :: vs, g, ca, br, h, hu, hv, hg, hc, hb => by
    obtain ⟨hu1, hu2⟩ := hu.tail
    obtain ⟨hv1, hv2⟩ := hv.tail
    have hm : (ca + g * v) % B < B := Nat.mod_lt _ (by omega)
    obtain ⟨e1, e2⟩ := sub_digit hu1 hm hb
    obtain ⟨h1, h2, h3, h4⟩ := msL_ok hB us vs g ((ca + g * v) / B) (if u < (ca + g * v) % B + br then 1 else 0) (by simpa using h) hu2 hv2 hg (Nat.div_lt_of_lt_mul (carry_lt hg hv1 hc)) (by split <;> omega)
    simp only [msL]
    refine ⟨?_, Dg.cons e2 h2, by simp only [List.length_cons, h3], h4⟩
    simp only [vl, List.length_cons, Nat.pow_succ]
    generalize (msL B us vs g ((ca + g * v) / B) (if u < (ca + g * v) % B + br then 1 else 0)).2 = o at h1 h4 ⊢
    generalize vl B (msL B us vs g ((ca + g * v) / B) (if u < (ca + g * v) % B + br then 1 else 0)).1 = V at h1 ⊢
    have e3 := Nat.mod_add_div (ca + g * v) B
    have e4 : B * V + B * (g * vl B vs) + B * ((ca + g * v) / B) + B * (if u < (ca + g * v) % B + br then 1 else 0) = B * vl B us + B ^ us.length * B * o := by
      rw [← Nat.mul_add, ← Nat.mul_add, ← Nat.mul_add, h1, Nat.mul_add, Nat.mul_comm (B ^ us.length) B, Nat.mul_assoc]
    have e5 : g * (v + B * vl B vs) = g * v + B * (g * vl B vs) := by rw [Nat.mul_add, Nat.mul_left_comm]
    rw [e5]
    omega

/-- laid on again: the lowest n digits, what is carried onto the top one -/
def abL (B : Nat) : List Nat → List Nat → Nat → List Nat
  | [], _, _ => []
  | u :: us, [], c => (u + c) % B :: us
  | u :: us, v :: vs, c => ((u + v + c) % B) :: abL B us vs ((u + v + c) / B)

theorem abL_ok {B : Nat} (hB : 2 ≤ B) : ∀ (us vs : List Nat) (c : Nat), us.length = vs.length + 1 → Dg B us → Dg B vs → c ≤ 1 →
    (vl B us + vl B vs + c) % B ^ us.length = vl B (abL B us vs c) ∧ Dg B (abL B us vs c) ∧ (abL B us vs c).length = us.length
  | [], _, _, h, _, _, _ => by simp at h
  | [u], [], c, _, hu, _, hc => by
    simp only [abL]
    exact ⟨by simp [vl], fun d hd => by simp only [List.mem_singleton] at hd; rw [hd]; exact Nat.mod_lt _ (by omega), rfl⟩
  | _ :: _ :: _, [], _, h, _, _, _ => by simp at h
  | u :: us, v :: vs, c, h, hu, hv, hc => by
    obtain ⟨hu1, hu2⟩ := hu.tail
    obtain ⟨hv1, hv2⟩ := hv.tail
    have hdc : (u + v + c) / B ≤ 1 := by
      have := Nat.div_lt_of_lt_mul (m := u + v + c) (n := B) (k := 2) (by omega)
      omega
    obtain ⟨h1, h2, h3⟩ := abL_ok hB us vs ((u + v + c) / B) (by simpa using h) hu2 hv2 hdc
    simp only [abL]
    refine ⟨?_, Dg.cons (Nat.mod_lt _ (by omega)) h2, by simp only [List.length_cons, h3]⟩
    simp only [vl, List.length_cons, ← h1]
    have e3 := Nat.mod_add_div (u + v + c) B
    have : u + B * vl B us + (v + B * vl B vs) + c = (u + v + c) % B + B * (vl B us + vl B vs + (u + v + c) / B) := by
      rw [Nat.mul_add, Nat.mul_add]; omega
    rw [this, Nat.pow_succ, Nat.mul_comm (B ^ us.length) B]
    generalize vl B us + vl B vs + (u + v + c) / B = X
    have hm : (u + v + c) % B < B := Nat.mod_lt _ (by omega)
    generalize (u + v + c) % B = m at hm
    -- (m + B * X) % (B * P) = m + B * (X % P)
    have hX := Nat.mod_add_div X (B ^ us.length)
    have hP : 0 < B ^ us.length := Nat.pow_pos (by omega)
    have hl : m + B * (X % B ^ us.length) < B * B ^ us.length := by
      have : B * (X % B ^ us.length) + B ≤ B * B ^ us.length := by rw [← Nat.mul_succ]; exact Nat.mul_le_mul_left B (Nat.mod_lt _ hP)
      omega
    have e : m + B * X = m + B * (X % B ^ us.length) + B * B ^ us.length * (X / B ^ us.length) := by
      conv => lhs; rw [← hX]
      rw [Nat.mul_add, Nat.mul_assoc]; omega
    rw [e, Nat.add_mul_mod_self_left, Nat.mod_eq_of_lt hl]

/-- a guess by the two highest digits of the one and the three highest of the other: never too small -/
theorem guess_ge {B P U V top v1 v2 u3 lowU lowV g q : Nat} (hP : 0 < P) (hU : U = (top * B + u3) * P + lowU) (hlU : lowU < P) (hV : V = (v1 * B + v2) * P + lowV) (hq : q * V ≤ U)
    (hg : top * B + u3 < g * (v1 * B + v2)) : q < g := by
  refine Nat.lt_of_not_le fun hle => ?_
  have h1 : g * ((v1 * B + v2) * P) ≤ U := by
    refine Nat.le_trans ?_ hq
    refine Nat.mul_le_mul hle ?_
    rw [hV]; omega
  have h2 : (top * B + u3 + 1) * P ≤ g * (v1 * B + v2) * P := Nat.mul_le_mul_right P hg
  rw [Nat.succ_mul, Nat.mul_assoc] at h2
  omega

theorem guess_top {B P U V top v1 v2 u3 lowU lowV q : Nat} (hB : 0 < B) (hP : 0 < P) (hu3 : u3 < B) (hU : U = (top * B + u3) * P + lowU) (hlU : lowU < P) (hV : V = (v1 * B + v2) * P + lowV) (hv1 : 0 < v1) (hq : q * V ≤ U) : q ≤ top / v1 := by
  rw [Nat.le_div_iff_mul_le hv1]
  refine Nat.le_of_not_lt fun hlt => ?_
  have h1 : q * v1 * (B * P) ≤ U := by
    refine Nat.le_trans ?_ hq
    rw [hV, Nat.mul_assoc]
    refine Nat.mul_le_mul_left q ?_
    rw [Nat.add_mul, Nat.mul_assoc]; omega
  have h2 : (top + 1) * (B * P) ≤ q * v1 * (B * P) := Nat.mul_le_mul_right _ hlt
  have h3 : (top * B + u3) * P + lowU < (top + 1) * (B * P) := by
    have e : (top + 1) * (B * P) = (top * B + (B - 1)) * P + P := by
      rw [Nat.add_mul, Nat.add_mul, Nat.sub_mul, Nat.one_mul, Nat.one_mul, Nat.mul_assoc]
      have : P ≤ B * P := Nat.le_mul_of_pos_left P hB
      omega
    have : (top * B + u3) * P ≤ (top * B + (B - 1)) * P := Nat.mul_le_mul_right P (by omega)
    omega
  omega

/-- one too many at most -/
theorem guess_le {B P U V top v1 v2 u3 lowU lowV g : Nat} (hU : U = (top * B + u3) * P + lowU) (hV : V = (v1 * B + v2) * P + lowV) (hlV : lowV < P) (hv1 : 0 < v1) (hgB : g < B)
    (hg : g * (v1 * B + v2) ≤ top * B + u3) : g * V < U + V := by
  have h1 : g * V ≤ g * ((v1 * B + v2) * P) + g * P := by
    rw [hV, Nat.mul_add]
    have := Nat.mul_le_mul_left g (Nat.le_of_lt hlV)
    omega
  have h2 : g * ((v1 * B + v2) * P) ≤ U := by
    rw [← Nat.mul_assoc, hU]
    have := Nat.mul_le_mul_right P hg
    omega
  have h3 : g * P < V ∨ P = 0 := by
    by_cases hP : P = 0
    · exact .inr hP
    · left
      have : g * P < B * P := Nat.mul_lt_mul_of_pos_right hgB (by omega)
      have h4 : B * P ≤ (v1 * B + v2) * P := Nat.mul_le_mul_right P (by
        have := Nat.le_mul_of_pos_left B hv1
        omega)
      omega
  rcases h3 with h3 | h3
  · omega
  · omega

/-! ### shifted -/
/-- by s bits up, one digit more -/
def shlL (B s : Nat) : List Nat → Nat → List Nat
  | [], c => [c]
  | x :: a, c => (c + x * 2 ^ s % B) :: shlL B s a (x * 2 ^ s / B)

theorem vl_shlL {B s : Nat} : ∀ (a : List Nat) (c : Nat), vl B (shlL B s a c) = vl B a * 2 ^ s + c
  | [], c => by simp [shlL, vl]
  | x :: a, c => by
    simp only [shlL, vl, vl_shlL a]
    have h2 := Nat.mod_add_div (x * 2 ^ s) B
    rw [Nat.mul_add, Nat.add_mul, Nat.mul_assoc]
    omega

/-- by s bits down: n digits out of n + 1 -/
def shrL (B s : Nat) : List Nat → List Nat
  | u0 :: u1 :: u => ((u1 * B + u0) / 2 ^ s) % B :: shrL B s (u1 :: u)
  | _ => []

theorem shrL_ok {K s : Nat} : ∀ (u : List Nat) (u0 : Nat), Dg (2 ^ (K + s)) (u0 :: u) →
    Dg (2 ^ (K + s)) (shrL (2 ^ (K + s)) s (u0 :: u)) ∧ (shrL (2 ^ (K + s)) s (u0 :: u)).length = u.length ∧
      vl (2 ^ (K + s)) (u0 :: u) / 2 ^ s % (2 ^ (K + s)) ^ u.length = vl (2 ^ (K + s)) (shrL (2 ^ (K + s)) s (u0 :: u))
  | [], _, _ => ⟨fun d h => by simp [shrL] at h, rfl, by simp [shrL, vl, Nat.mod_one]⟩
  | u1 :: u, u0, h => by
    obtain ⟨h0, h'⟩ := h.tail
    obtain ⟨g1, g2, g3⟩ := shrL_ok u u1 h'
    have hB : 0 < 2 ^ (K + s) := Nat.pow_pos (by omega)
    have hS : 0 < 2 ^ s := Nat.pow_pos (by omega)
    have hBs : 2 ^ (K + s) = 2 ^ s * 2 ^ K := by rw [Nat.pow_add, Nat.mul_comm]
    refine ⟨Dg.cons (Nat.mod_lt _ hB) g1, by simp only [shrL, List.length_cons, g2], ?_⟩
    simp only [shrL, vl]
    rw [← g3]
    simp only [vl, List.length_cons]
    generalize vl (2 ^ (K + s)) u = W
    -- U1 = u1 + B W
    have e1 : ∀ X, (u0 + 2 ^ (K + s) * X) / 2 ^ s = u0 / 2 ^ s + 2 ^ K * X := fun X => by
      rw [hBs, Nat.mul_assoc, Nat.add_mul_div_left _ _ hS]
    have e2 : (u1 * 2 ^ (K + s) + u0) / 2 ^ s = u0 / 2 ^ s + 2 ^ K * u1 := by rw [Nat.add_comm, Nat.mul_comm, e1]
    rw [e1, e2]
    have hlo : u0 / 2 ^ s < 2 ^ K := by
      rw [Nat.div_lt_iff_lt_mul hS, Nat.mul_comm, ← hBs]; exact h0
    have e3 : ∀ X, u0 / 2 ^ s + 2 ^ K * X = (u0 / 2 ^ s + 2 ^ K * (X % 2 ^ s)) + 2 ^ (K + s) * (X / 2 ^ s) := fun X => by
      have := Nat.mod_add_div X (2 ^ s)
      conv => lhs; rw [← this]
      rw [Nat.mul_add, Nat.pow_add, Nat.mul_assoc]; omega
    have hlt : ∀ X, u0 / 2 ^ s + 2 ^ K * (X % 2 ^ s) < 2 ^ (K + s) := fun X => by
      have h1 : 2 ^ K * (X % 2 ^ s) + 2 ^ K ≤ 2 ^ K * 2 ^ s := by rw [← Nat.mul_succ]; exact Nat.mul_le_mul_left _ (Nat.mod_lt _ hS)
      rw [← Nat.pow_add] at h1
      omega
    have e4 : (u1 + 2 ^ (K + s) * W) % 2 ^ s = u1 % 2 ^ s := by rw [hBs, Nat.mul_assoc, Nat.add_mul_mod_self_left]
    rw [e3 u1, Nat.add_mul_mod_self_left, Nat.mod_eq_of_lt (hlt u1), e3 (u1 + 2 ^ (K + s) * W), e4]
    generalize (u1 + 2 ^ (K + s) * W) / 2 ^ s = Y
    have hm := hlt u1
    generalize u0 / 2 ^ s + 2 ^ K * (u1 % 2 ^ s) = m at hm
    generalize 2 ^ (K + s) = B at *
    rw [Nat.pow_succ, Nat.mul_comm (B ^ u.length) B]
    have hX := Nat.mod_add_div Y (B ^ u.length)
    have hP : 0 < B ^ u.length := Nat.pow_pos hB
    have hl : m + B * (Y % B ^ u.length) < B * B ^ u.length := by
      have : B * (Y % B ^ u.length) + B ≤ B * B ^ u.length := by rw [← Nat.mul_succ]; exact Nat.mul_le_mul_left B (Nat.mod_lt _ hP)
      omega
    have e : m + B * Y = m + B * (Y % B ^ u.length) + B * B ^ u.length * (Y / B ^ u.length) := by
      conv => lhs; rw [← hX]
      rw [Nat.mul_add, Nat.mul_assoc]; omega
    rw [e, Nat.add_mul_mod_self_left, Nat.mod_eq_of_lt hl]

/-! ### decimal texts -/
/-- so many decimal digits of a number, the lowest first -/
def dK : Nat → Nat → List Nat
  | 0, _ => []
  | k + 1, d => d % 10 :: dK k (d / 10)

theorem dK_len : ∀ (k d : Nat), (dK k d).length = k
  | 0, _ => rfl
  | k + 1, d => by simp only [dK, List.length_cons, dK_len k]

theorem dg_dK {m : Nat} (hm : m ≠ 0) : ∀ (k d : Nat), d < 10 ^ k → dg 10 (d + 10 ^ k * m) = dK k d ++ dg 10 m
  | 0, d, h => by
    have : d = 0 := by simpa using h
    subst this
    simp [dK]
  | k + 1, d, h => by
    have hp : 0 < 10 ^ k * m := Nat.mul_pos (Nat.pow_pos (by omega)) (by omega)
    have e : 10 ^ (k + 1) * m = 10 * (10 ^ k * m) := by rw [Nat.pow_succ, Nat.mul_comm (10 ^ k) 10, Nat.mul_assoc]
    rw [e, dg_pos (by omega) (by omega), Nat.add_mul_mod_self_left, Nat.add_mul_div_left _ _ (by omega)]
    rw [dg_dK hm k (d / 10) (by rw [Nat.pow_succ] at h; omega)]
    rfl

theorem dK_dg : ∀ (k d : Nat), d < 10 ^ k → dK k d = dg 10 d ++ List.replicate (k - (dg 10 d).length) 0
  | 0, d, h => by
    have : d = 0 := by simpa using h
    subst this
    simp [dK, dg_zero]
  | k + 1, d, h => by
    have h' : d / 10 < 10 ^ k := by rw [Nat.pow_succ] at h; omega
    have ih := dK_dg k (d / 10) h'
    simp only [dK]
    by_cases h0 : d = 0
    · subst h0
      rw [ih]
      simp [dg_zero, List.replicate_succ]
    · rw [dg_pos (by omega) h0, ih, List.cons_append, List.length_cons]
      congr 3
      omega

/-- a digit's sign -/
def chD (d : Nat) : UInt8 := UInt8.ofNat (48 + d)
/-- a number's text -/
def dtext (n : Nat) : List UInt8 := if n = 0 then [48] else ((dg 10 n).reverse).map chD

def isD (c : UInt8) : Bool := decide (48 ≤ c.toNat) && decide (c.toNat ≤ 57)
/-- what a text of digits is worth -/
def vD (s : List UInt8) : Nat := s.foldl (fun n c => n * 10 + (c.toNat - 48)) 0
/-- a text that is a number's -/
def canon (s : List UInt8) : Prop := s ≠ [] ∧ (∀ c, c ∈ s → isD c = true) ∧ (s.head? = some 48 → s.length = 1)

theorem chD_nat {d : Nat} (h : d < 10) : (chD d).toNat = 48 + d := by
  unfold chD
  rw [UInt8.toNat_ofNat']
  omega
theorem chD_isD {d : Nat} (h : d < 10) : isD (chD d) = true := by
  unfold isD
  rw [chD_nat h]
  simp; omega

theorem vD_fold (s : List UInt8) : ∀ (n : Nat), s.foldl (fun n c => n * 10 + (c.toNat - 48)) n = n * 10 ^ s.length + vD s := by
  induction s with
  | nil => intro n; simp [vD]
  | cons c s ih =>
    intro n
    simp only [List.foldl_cons, List.length_cons, vD]
    rw [ih, ih (0 * 10 + (c.toNat - 48))]
    rw [Nat.pow_succ, Nat.add_mul, Nat.zero_mul, Nat.zero_add, Nat.mul_assoc, Nat.mul_comm 10 (10 ^ s.length)]
    omega

theorem vD_app (s t : List UInt8) : vD (s ++ t) = vD s * 10 ^ t.length + vD t := by
  unfold vD
  rw [List.foldl_append, vD_fold t]
  rfl

theorem vD_vl (s : List UInt8) : vD s = vl 10 ((s.map fun c => c.toNat - 48).reverse) := by
  induction s with
  | nil => rfl
  | cons c s ih =>
    rw [show c :: s = [c] ++ s from rfl, vD_app, ih, List.map_append, List.reverse_append, vl_app]
    simp [vD, vl, Nat.mul_comm]
    omega

theorem vD_lt {s : List UInt8} (h : ∀ c, c ∈ s → isD c = true) : vD s < 10 ^ s.length := by
  rw [vD_vl]
  have : Dg 10 ((s.map fun c => c.toNat - 48).reverse) := fun d hd => by
    rw [List.mem_reverse] at hd
    obtain ⟨c, hc, rfl⟩ := List.mem_map.1 hd
    have := h c hc
    simp only [isD, Bool.and_eq_true, decide_eq_true_eq] at this
    omega
  have := vl_lt (b := 10) (by omega) this
  simpa using this

theorem chD_back {c : UInt8} (h : isD c = true) : chD (c.toNat - 48) = c := by
  simp only [isD, Bool.and_eq_true, decide_eq_true_eq] at h
  unfold chD
  apply UInt8.toNat.inj
  rw [UInt8.toNat_ofNat']
  have := c.toNat_lt
  omega

/-- a number's text is read back -/
theorem dtext_vD {s : List UInt8} (h : canon s) : dtext (vD s) = s := by
  obtain ⟨h0, h1, h2⟩ := h
  obtain ⟨c, s, rfl⟩ : ∃ c s', s = c :: s' := by cases s with | nil => exact absurd rfl h0 | cons c s => exact ⟨_, _, rfl⟩
  have hc := h1 c (by simp)
  have hD : Dg 10 (((c :: s).map fun c => c.toNat - 48).reverse) := fun d hd => by
    rw [List.mem_reverse] at hd
    obtain ⟨x, hx, rfl⟩ := List.mem_map.1 hd
    have := h1 x hx
    simp only [isD, Bool.and_eq_true, decide_eq_true_eq] at this
    omega
  have back : ((c :: s).map fun c => c.toNat - 48).map chD = c :: s := by
    rw [List.map_map]
    conv => rhs; rw [← List.map_id (c :: s)]
    exact List.map_congr_left fun x hx => chD_back (h1 x hx)
  by_cases hz : c = 48
  · have hl := h2 (by rw [hz]; rfl)
    have : s = [] := List.eq_nil_of_length_eq_zero (by simpa using hl)
    subst this
    subst hz
    rfl
  · have hcn : c.toNat - 48 ≠ 0 := by
      simp only [isD, Bool.and_eq_true, decide_eq_true_eq] at hc
      intro h
      apply hz
      apply UInt8.toNat.inj
      have : (48 : UInt8).toNat = 48 := rfl
      omega
    have e : dg 10 (vD (c :: s)) = ((c :: s).map fun c => c.toNat - 48).reverse := by
      rw [vD_vl, dg_vl (by omega) hD, List.map_cons, List.reverse_cons, tz_snoc hcn]
    have hv : vD (c :: s) ≠ 0 := fun h => by
      rw [h, dg_zero] at e
      simp at e
    unfold dtext
    rw [if_neg hv, e, List.reverse_reverse, back]

theorem canon_dtext (n : Nat) : canon (dtext n) := by
  unfold dtext
  split
  · exact ⟨by simp, fun c h => by rw [List.mem_singleton] at h; rw [h]; rfl, fun _ => rfl⟩
  · rename_i hn
    have hne : dg 10 n ≠ [] := fun h => hn ((dg_nil (by omega)).1 h)
    refine ⟨by simpa using hne, fun c h => ?_, fun h => ?_⟩
    · obtain ⟨d, hd, rfl⟩ := List.mem_map.1 h
      rw [List.mem_reverse] at hd
      exact chD_isD (dg_Dg (by omega) n d hd)
    · obtain ⟨l, d, hl⟩ : ∃ l d, dg 10 n = l ++ [d] := ⟨_, _, (List.dropLast_concat_getLast hne).symm⟩
      have hd := dg_last (by omega) hl
      have hdb : d < 10 := dg_Dg (by omega) n d (by rw [hl]; simp)
      rw [hl] at h
      simp only [List.reverse_append, List.reverse_singleton, List.singleton_append, List.map_cons, List.head?_cons, Option.some.injEq] at h
      have := congrArg UInt8.toNat h
      rw [chD_nat hdb] at this
      have h48 : (48 : UInt8).toNat = 48 := rfl
      omega

theorem vD_dtext (n : Nat) : vD (dtext n) = n := by
  unfold dtext
  split
  · rename_i h; rw [h]; rfl
  · rw [vD_vl, List.map_map, ← List.map_reverse, List.reverse_reverse]
    have : (dg 10 n).map ((fun c : UInt8 => c.toNat - 48) ∘ chD) = dg 10 n := by
      conv => rhs; rw [← List.map_id (dg 10 n)]
      refine List.map_congr_left fun d hd => ?_
      show (chD d).toNat - 48 = d
      rw [chD_nat (dg_Dg (by omega) n d hd)]
      omega
    rw [this, vl_dg (by omega)]

theorem dtext_inj {m n : Nat} (h : dtext m = dtext n) : m = n := by rw [← vD_dtext m, h, vD_dtext]

end Rf
end

section
/- Whole numbers and fractions: their texts, their sizes. Plain arithmetic. -/
set_option linter.unusedVariables false
set_option linter.unusedSimpArgs false
namespace Rf

/-! ### sizes -/
theorem dg_len_pow {b x k : Nat} (hb : 2 ≤ b) (h : x < 2 ^ k) : (dg b x).length ≤ k :=
  dg_len_le hb (Nat.lt_of_lt_of_le h (Nat.pow_le_pow_left hb k))

theorem dtext_len {x k : Nat} (h : x < 2 ^ k) : (dtext x).length ≤ k + 1 := by
  unfold dtext
  split
  · simp
  · have := dg_len_pow (b := 10) (by omega) h
    simp; omega

theorem pow_le16 (n : Nat) : 10 ^ n ≤ 2 ^ (4 * n) := by
  rw [Nat.pow_mul]
  exact Nat.pow_le_pow_left (by omega) n

theorem vD_lt2 {s : List UInt8} (h : ∀ c, c ∈ s → isD c = true) : vD s < 2 ^ (4 * s.length) := Nat.lt_of_lt_of_le (vD_lt h) (pow_le16 _)

theorem dtext_lt {n : Nat} : n < 2 ^ (4 * (dtext n).length) := by
  have := vD_lt2 (canon_dtext n).2.1
  rwa [vD_dtext] at this

theorem dtext_pos (n : Nat) : 1 ≤ (dtext n).length := by
  have := (canon_dtext n).1
  have := List.length_pos_iff.2 this
  omega

/-! ### texts -/
def ztext (z : Int) : List UInt8 := if z < 0 then 45 :: dtext z.natAbs else dtext z.natAbs
def rtext (r : Rat) : List UInt8 := if r.den = 1 then ztext r.num else ztext r.num ++ 47 :: dtext r.den

theorem isD_47 : isD 47 = false := by decide
theorem isD_45 : isD 45 = false := by decide

theorem canon_nd {c : UInt8} (hc : isD c = false) {l : List UInt8} (h : canon l) : c ∉ l := fun q => by
  have := h.2.1 c q
  rw [hc] at this; cases this

theorem canon_not45 {t : List UInt8} : ¬ canon (45 :: t) := fun h => canon_nd isD_45 h (by simp)

theorem ztext_no47 (z : Int) : (47 : UInt8) ∉ ztext z := by
  have := canon_nd isD_47 (canon_dtext z.natAbs)
  unfold ztext
  split
  · simp only [List.mem_cons, not_or]
    exact ⟨by decide, this⟩
  · exact this

theorem ztext_inj {a b : Int} (h : ztext a = ztext b) : a = b := by
  have h45 : ∀ n t, (45 : UInt8) :: t ≠ dtext n := fun n t q => canon_not45 (q ▸ canon_dtext n)
  unfold ztext at h
  split at h <;> split at h
  · have := dtext_inj (List.cons.inj h).2; omega
  · exact absurd h (h45 _ _)
  · exact absurd h.symm (h45 _ _)
  · have := dtext_inj h; omega

open Classical in
/-- the whole number whose text this is -/
noncomputable def pz (l : List UInt8) : Option Int := if h : ∃ z, l = ztext z then some h.choose else none

theorem pz_some {l : List UInt8} {z : Int} : pz l = some z ↔ l = ztext z := by
  unfold pz
  constructor
  · intro h
    split at h
    · rename_i hz
      cases h; exact hz.choose_spec
    · cases h
  · intro h
    have hz : ∃ z, l = ztext z := ⟨z, h⟩
    rw [dif_pos hz]
    congr 1
    exact ztext_inj (hz.choose_spec.symm.trans h)

theorem pz_none {l : List UInt8} : pz l = none ↔ ∀ z, l ≠ ztext z := by
  constructor
  · intro h z q
    rw [pz_some.2 q] at h; cases h
  · intro h
    unfold pz
    rw [dif_neg (fun ⟨z, q⟩ => h z q)]

theorem pz_neg {t : List UInt8} (hc : canon t) (h0 : vD t ≠ 0) : pz (45 :: t) = some (-(vD t : Int)) := by
  rw [pz_some]
  unfold ztext
  rw [if_pos (by omega)]
  congr 1
  rw [Int.natAbs_neg, Int.natAbs_natCast, dtext_vD hc]

theorem pz_neg_none {t : List UInt8} (h : ¬ (canon t ∧ vD t ≠ 0)) : pz (45 :: t) = none := by
  rw [pz_none]
  intro z q
  unfold ztext at q
  split at q
  · have q := (List.cons.inj q).2
    exact h ⟨q ▸ canon_dtext _, by rw [q, vD_dtext]; omega⟩
  · exact canon_not45 (q ▸ canon_dtext _)

theorem pz_pos {l : List UInt8} (hc : canon l) : pz l = some (vD l : Int) := by
  rw [pz_some]
  unfold ztext
  rw [if_neg (by omega), Int.natAbs_natCast, dtext_vD hc]

theorem pz_pos_none {l : List UInt8} (h45 : l.head? ≠ some 45) (hc : ¬ canon l) : pz l = none := by
  rw [pz_none]
  intro z q
  unfold ztext at q
  split at q
  · rw [q] at h45; exact h45 rfl
  · exact hc (q ▸ canon_dtext _)

theorem pz_lt {l : List UInt8} {z : Int} (h : pz l = some z) : z.natAbs < 2 ^ (4 * l.length) := by
  rw [pz_some] at h
  subst h
  unfold ztext
  split
  · exact Nat.lt_of_lt_of_le dtext_lt (Nat.pow_le_pow_right (by omega) (by simp; omega))
  · exact dtext_lt

/-! ### ahead of the first slash; behind it -/
def cutA (l : List UInt8) : List UInt8 := l.takeWhile (· != 47)
def cutB (l : List UInt8) : List UInt8 := (l.dropWhile (· != 47)).tail

theorem cut_no {l : List UInt8} (h : 47 ∉ l) : cutA l = l ∧ cutB l = [] := by
  have hp : ∀ x, x ∈ l → (x != 47) = true := fun x hx => by
    simp only [bne_iff_ne, ne_eq]
    intro q; exact h (q ▸ hx)
  unfold cutA cutB
  have e1 : l.takeWhile (· != 47) = l := by
    clear h
    induction l with
    | nil => rfl
    | cons a l ih => rw [List.takeWhile_cons, hp a (by simp)]; simp only [if_true]; rw [ih fun x hx => hp x (by simp [hx])]
  have e2 : l.dropWhile (· != 47) = [] := by
    clear h e1
    induction l with
    | nil => rfl
    | cons a l ih => rw [List.dropWhile_cons, hp a (by simp)]; simp only [if_true]; rw [ih fun x hx => hp x (by simp [hx])]
  exact ⟨e1, by rw [e2]; rfl⟩

theorem cut_at {a b : List UInt8} (h : 47 ∉ a) : cutA (a ++ 47 :: b) = a ∧ cutB (a ++ 47 :: b) = b := by
  unfold cutA cutB
  induction a with
  | nil => exact ⟨rfl, rfl⟩
  | cons x a ih =>
    simp only [List.mem_cons, not_or] at h
    obtain ⟨i1, i2⟩ := ih h.2
    have hx : (x != 47) = true := by
      simp only [bne_iff_ne, ne_eq]
      exact fun q => h.1 q.symm
    simp only [List.cons_append, List.takeWhile_cons, List.dropWhile_cons, hx, if_true]
    exact ⟨by rw [i1], i2⟩

theorem cut_join {l : List UInt8} (h : 47 ∈ l) : l = cutA l ++ 47 :: cutB l := by
  unfold cutA cutB
  induction l with
  | nil => simp at h
  | cons x l ih =>
    by_cases hx : x = 47
    · subst hx; rfl
    · have hb : (x != 47) = true := by simpa using hx
      have : 47 ∈ l := by
        rcases List.mem_cons.1 h with h | h
        · exact absurd h.symm hx
        · exact h
      simp only [List.takeWhile_cons, List.dropWhile_cons, hb, if_true, List.cons_append]
      rw [← ih this]

theorem cutA_no (l : List UInt8) : 47 ∉ cutA l := by
  unfold cutA
  induction l with
  | nil => simp
  | cons x l ih =>
    rw [List.takeWhile_cons]
    split
    · rename_i h
      have hx : x ≠ 47 := by simpa using h
      simp only [List.mem_cons, not_or]
      exact ⟨fun q => hx q.symm, ih⟩
    · simp

theorem cut_len (l : List UInt8) : (cutA l).length ≤ l.length ∧ (cutB l).length ≤ l.length := by
  by_cases h : 47 ∈ l
  · have := congrArg List.length (cut_join h)
    simp at this
    omega
  · obtain ⟨h1, h2⟩ := cut_no h
    rw [h1, h2]; simp

theorem rtext_has (r : Rat) : 47 ∈ rtext r ↔ r.den ≠ 1 := by
  unfold rtext
  split
  · rename_i h
    simp [h, ztext_no47]
  · rename_i h
    simp [h]

theorem rtext_inj {a b : Rat} (h : rtext a = rtext b) : a = b := by
  have hd : a.den = 1 ↔ b.den = 1 := by
    have h1 := rtext_has a
    have h2 := rtext_has b
    rw [h] at h1
    by_cases q : a.den = 1 <;> by_cases q' : b.den = 1 <;> simp_all
  unfold rtext at h
  by_cases q : a.den = 1
  · have q' := hd.1 q
    rw [if_pos q, if_pos q'] at h
    exact Rat.ext (ztext_inj h) (q.trans q'.symm)
  · have q' : ¬ b.den = 1 := fun h => q (hd.2 h)
    rw [if_neg q, if_neg q'] at h
    obtain ⟨a1, a2⟩ := cut_at (b := dtext a.den) (ztext_no47 a.num)
    obtain ⟨b1, b2⟩ := cut_at (b := dtext b.den) (ztext_no47 b.num)
    rw [h] at a1 a2
    exact Rat.ext (ztext_inj (a1.symm.trans b1)) (dtext_inj (a2.symm.trans b2))

open Classical in
/-- the fraction whose text this is -/
noncomputable def pr (l : List UInt8) : Option Rat := if h : ∃ r, l = rtext r then some h.choose else none

theorem pr_some {l : List UInt8} {r : Rat} : pr l = some r ↔ l = rtext r := by
  unfold pr
  constructor
  · intro h
    split at h
    · rename_i hz
      cases h; exact hz.choose_spec
    · cases h
  · intro h
    have hz : ∃ z, l = rtext z := ⟨r, h⟩
    rw [dif_pos hz]
    congr 1
    exact rtext_inj (hz.choose_spec.symm.trans h)

theorem pr_none {l : List UInt8} : pr l = none ↔ ∀ r, l ≠ rtext r := by
  constructor
  · intro h z q
    rw [pr_some.2 q] at h; cases h
  · intro h
    unfold pr
    rw [dif_neg (fun ⟨z, q⟩ => h z q)]

/-! ### how great at most -/
def Bd (k : Nat) (r : Rat) : Prop := r.num.natAbs < 2 ^ k ∧ r.den < 2 ^ k

theorem Bd.mono {k m : Nat} {r : Rat} (h : Bd k r) (hkm : k ≤ m) : Bd m r :=
  ⟨Nat.lt_of_lt_of_le h.1 (Nat.pow_le_pow_right (by omega) hkm), Nat.lt_of_lt_of_le h.2 (Nat.pow_le_pow_right (by omega) hkm)⟩

theorem divInt_le (a b : Int) (hb : b ≠ 0) : (Rat.divInt a b).num.natAbs ≤ a.natAbs ∧ (Rat.divInt a b).den ≤ b.natAbs := by
  have hg : (b.gcd a : Int) ∣ a := Int.gcd_dvd_right _ _
  have hg0 : 0 < b.gcd a := Int.gcd_pos_of_ne_zero_left _ hb
  constructor
  · rw [Rat.num_divInt, Int.mul_ediv_assoc _ hg, Int.natAbs_mul]
    have h1 : b.sign.natAbs = 1 := by
      rcases Int.lt_or_gt_of_ne hb with h | h
      · rw [Int.sign_eq_neg_one_of_neg h]; rfl
      · rw [Int.sign_eq_one_of_pos h]; rfl
    rw [h1, Nat.one_mul, Int.natAbs_ediv_of_dvd hg, Int.natAbs_natCast]
    exact Nat.div_le_self _ _
  · rw [Rat.den_divInt, if_neg hb]
    exact Nat.div_le_self _ _

theorem add_divInt (r s : Rat) : r + s = Rat.divInt (r.num * s.den + s.num * r.den) (r.den * s.den) := by
  have hr : (r.den : Int) ≠ 0 := by have := r.den_nz; omega
  have hs : (s.den : Int) ≠ 0 := by have := s.den_nz; omega
  rw [← Rat.divInt_add_divInt _ _ hr hs, Rat.num_divInt_den, Rat.num_divInt_den]

theorem sub_divInt (r s : Rat) : r - s = Rat.divInt (r.num * s.den - s.num * r.den) (r.den * s.den) := by
  have hr : (r.den : Int) ≠ 0 := by have := r.den_nz; omega
  have hs : (s.den : Int) ≠ 0 := by have := s.den_nz; omega
  rw [← Rat.divInt_sub_divInt _ _ hr hs, Rat.num_divInt_den, Rat.num_divInt_den]

theorem mul_divInt (r s : Rat) : r * s = Rat.divInt (r.num * s.num) (r.den * s.den) := by
  rw [← Rat.divInt_mul_divInt, Rat.num_divInt_den, Rat.num_divInt_den]

theorem den_mul_ne (r s : Rat) : ((r.den : Int) * (s.den : Int)) ≠ 0 := by
  have hr : (r.den : Int) ≠ 0 := by have := r.den_nz; omega
  have hs : (s.den : Int) ≠ 0 := by have := s.den_nz; omega
  exact Int.mul_ne_zero hr hs

theorem natAbs_den (r s : Rat) : ((r.den : Int) * (s.den : Int)).natAbs = r.den * s.den := by rw [Int.natAbs_mul]; rfl

theorem lt_pow_mul {a b k m : Nat} (h : a < 2 ^ k) (h' : b < 2 ^ m) : a * b < 2 ^ (k + m) := by
  rw [Nat.pow_add]
  exact Nat.mul_lt_mul'' h h'

theorem Bd.mul {k m : Nat} {r s : Rat} (h : Bd k r) (h' : Bd m s) : Bd (k + m) (r * s) := by
  rw [mul_divInt]
  obtain ⟨h1, h2⟩ := divInt_le (r.num * s.num) (r.den * s.den) (den_mul_ne r s)
  rw [Int.natAbs_mul] at h1
  rw [natAbs_den] at h2
  exact ⟨Nat.lt_of_le_of_lt h1 (lt_pow_mul h.1 h'.1), Nat.lt_of_le_of_lt h2 (lt_pow_mul h.2 h'.2)⟩

theorem cross_lt {k m : Nat} {r s : Rat} (h : Bd k r) (h' : Bd m s) : (r.num * s.den).natAbs < 2 ^ (k + m) ∧ (s.num * r.den).natAbs < 2 ^ (k + m) := by
  rw [Int.natAbs_mul, Int.natAbs_mul, Int.natAbs_natCast, Int.natAbs_natCast]
  exact ⟨lt_pow_mul h.1 h'.2, by rw [Nat.add_comm k]; exact lt_pow_mul h'.1 h.2⟩

theorem Bd.add {k m : Nat} {r s : Rat} (h : Bd k r) (h' : Bd m s) : Bd (k + m + 1) (r + s) := by
  rw [add_divInt]
  obtain ⟨h1, h2⟩ := divInt_le (r.num * s.den + s.num * r.den) (r.den * s.den) (den_mul_ne r s)
  rw [natAbs_den] at h2
  obtain ⟨c1, c2⟩ := cross_lt h h'
  have := lt_pow_mul h.2 h'.2
  rw [Bd, Nat.pow_succ]
  constructor <;> omega

theorem Bd.neg {k : Nat} {r : Rat} (h : Bd k r) : Bd k (-r) := by
  refine ⟨?_, h.2⟩
  show (-r.num).natAbs < _
  rw [Int.natAbs_neg]; exact h.1

theorem Bd.sub {k m : Nat} {r s : Rat} (h : Bd k r) (h' : Bd m s) : Bd (k + m + 1) (r - s) := by
  rw [Rat.sub_eq_add_neg]
  exact h.add h'.neg

theorem Bd.int {k : Nat} {z : Int} (h : z.natAbs < 2 ^ k) (hk : 1 ≤ k) : Bd k (z : Rat) := by
  refine ⟨h, ?_⟩
  show 1 < 2 ^ k
  exact Nat.one_lt_two_pow (by omega)

theorem ztext_len {z : Int} {k : Nat} (h : z.natAbs < 2 ^ k) : (ztext z).length ≤ k + 2 := by
  have := dtext_len h
  unfold ztext
  split <;> simp <;> omega

theorem Bd.len {k : Nat} {r : Rat} (h : Bd k r) : (rtext r).length ≤ 2 * k + 4 := by
  have h1 := ztext_len h.1
  have h2 := dtext_len h.2
  unfold rtext
  split
  · omega
  · simp; omega

theorem Bd.of {r : Rat} : Bd (4 * (rtext r).length) r := by
  have hz : r.num.natAbs < 2 ^ (4 * (ztext r.num).length) := pz_lt (pz_some.2 rfl)
  have hp : 1 ≤ (ztext r.num).length := by
    have := dtext_pos r.num.natAbs
    unfold ztext; split <;> simp <;> omega
  unfold rtext
  split
  · rename_i h
    exact ⟨hz, by rw [h]; exact Nat.one_lt_two_pow (by omega)⟩
  · refine ⟨Nat.lt_of_lt_of_le hz (Nat.pow_le_pow_right (by omega) (by simp; omega)), Nat.lt_of_lt_of_le dtext_lt (Nat.pow_le_pow_right (by omega) (by simp; omega))⟩

theorem pr_bd {l : List UInt8} {r : Rat} (h : pr l = some r) : Bd (4 * l.length) r := by
  rw [pr_some] at h
  subst h; exact Bd.of

end Rf
end

section
/- Words of 32 and 64 bits as numbers; what is eventually so of a function's runs. -/
set_option linter.unusedSimpArgs false
set_option linter.unusedVariables false
namespace Rf
open Go

/-! ### whatever the fuel, from some on -/
def Ev (E : Env) (f : FuncId) (L R : List FV) : Prop := ∃ n0, ∀ n, n0 ≤ n → evF E n f L = some R

theorem Ev.of {E : Env} {f : FuncId} {L R : List FV} (n0 : Nat) (h : ∀ n, n0 ≤ n → evF E (n + 1) f L = some R) : Ev E f L R :=
  ⟨n0 + 1, fun n hn => by
    obtain ⟨k, rfl⟩ : ∃ k, n = k + 1 := ⟨n - 1, by omega⟩
    exact h k (by omega)⟩

theorem Ev.run {E : Env} {f : FuncId} {L R : List FV} (h : Ev E f L R) : ∃ n, evF E n f L = some R := let ⟨n, hn⟩ := h; ⟨n, hn n (Nat.le_refl _)⟩

/-! ### words -/
theorem wrap_u32 (x : Nat) : IntKind.wrap .u32 (x : Int) = ((x % 4294967296 : Nat) : Int) := by
  unfold IntKind.wrap
  simp [IntKind.bits, IntKind.signed]
theorem wrap_u64 (x : Nat) : IntKind.wrap .u64 (x : Int) = ((x % 18446744073709551616 : Nat) : Int) := by
  unfold IntKind.wrap
  simp [IntKind.bits, IntKind.signed]
theorem wrap_u32_id {x : Nat} (h : x < 4294967296) : IntKind.wrap .u32 (x : Int) = (x : Int) := by rw [wrap_u32, Nat.mod_eq_of_lt h]
theorem wrap_u64_id {x : Nat} (h : x < 18446744073709551616) : IntKind.wrap .u64 (x : Int) = (x : Int) := by rw [wrap_u64, Nat.mod_eq_of_lt h]
theorem wrap_i64_nat {x : Nat} (h : x < 9223372036854775808) : IntKind.wrap .i64 (x : Int) = (x : Int) := wrap64_id (by omega) (by omega)

theorem cast_add (x y : Nat) : (x : Int) + (y : Int) = ((x + y : Nat) : Int) := rfl
theorem cast_mul (x y : Nat) : (x : Int) * (y : Int) = ((x * y : Nat) : Int) := rfl

theorem add_u64 {x y : Nat} (h : x + y < 18446744073709551616) : IntKind.wrap .u64 ((x : Int) + (y : Int)) = ((x + y : Nat) : Int) := by rw [cast_add, wrap_u64_id h]
theorem mul_u64 {x y : Nat} (h : x * y < 18446744073709551616) : IntKind.wrap .u64 ((x : Int) * (y : Int)) = ((x * y : Nat) : Int) := by rw [cast_mul, wrap_u64_id h]
theorem add_i64 {x y : Nat} (h : x + y < 9223372036854775808) : IntKind.wrap .i64 ((x : Int) + (y : Int)) = ((x + y : Nat) : Int) := by rw [cast_add, wrap_i64_nat h]
theorem mul_i64 {x y : Nat} (h : x * y < 9223372036854775808) : IntKind.wrap .i64 ((x : Int) * (y : Int)) = ((x * y : Nat) : Int) := by rw [cast_mul, wrap_i64_nat h]
theorem sub_i64 {x y : Nat} (hxy : y ≤ x) (h : x < 9223372036854775808) : IntKind.wrap .i64 ((x : Int) - (y : Int)) = ((x - y : Nat) : Int) := by
  rw [wrap64_id (by omega) (by omega)]; omega

theorem shr_nat (k : IntKind) (x s : Nat) (hs : s ≤ k.bits) : shI false k (x : Int) (s : Int) = ((x / 2 ^ s : Nat) : Int) := by
  unfold shI
  rw [cond_false, Int.toNat_natCast, Nat.min_eq_left hs, Int.fdiv_eq_ediv_of_nonneg _ (by exact Int.le_of_lt (Int.pow_pos (by omega)))]
  have : (2 : Int) ^ s = ((2 ^ s : Nat) : Int) := by simp
  rw [this]
  rfl
theorem shl_nat (k : IntKind) (x s : Nat) (hs : s ≤ k.bits) : shI true k (x : Int) (s : Int) = k.wrap ((x * 2 ^ s : Nat) : Int) := by
  unfold shI
  rw [cond_true, Int.toNat_natCast, Nat.min_eq_left hs]
  congr 1

theorem bv_nat {w x : Nat} (h : x < 2 ^ w) : (BitVec.ofInt w (x : Int)).toNat = x := by
  rw [BitVec.toNat_ofInt]
  have : ((x : Int) % (2 ^ w : Nat)).toNat = x := by
    rw [Int.emod_eq_of_lt (by omega) (by exact_mod_cast h), Int.toNat_natCast]
  simpa using this

theorem or_u64 {x y : Nat} (hx : x < 18446744073709551616) (hy : y < 18446744073709551616) : bitI .or .u64 (x : Int) (y : Int) = ((x ||| y : Nat) : Int) := by
  have h : x ||| y < 2 ^ 64 := Nat.or_lt_two_pow hx hy
  show IntKind.wrap .u64 (((BitVec.ofInt 64 (x : Int) ||| BitVec.ofInt 64 (y : Int)).toNat : Nat) : Int) = _
  rw [BitVec.toNat_or, bv_nat hx, bv_nat hy, wrap_u64_id h]
theorem or_u32 {x y : Nat} (hx : x < 4294967296) (hy : y < 4294967296) : bitI .or .u32 (x : Int) (y : Int) = ((x ||| y : Nat) : Int) := by
  have h : x ||| y < 2 ^ 32 := Nat.or_lt_two_pow hx hy
  show IntKind.wrap .u32 (((BitVec.ofInt 32 (x : Int) ||| BitVec.ofInt 32 (y : Int)).toNat : Nat) : Int) = _
  rw [BitVec.toNat_or, bv_nat hx, bv_nat hy, wrap_u32_id h]

/-- a high and a low half -/
theorem or_halves {x y s : Nat} (hy : y < 2 ^ s) : x * 2 ^ s ||| y = x * 2 ^ s + y := by
  rw [Nat.mul_comm, Nat.two_pow_add_eq_or_of_lt hy]

/-! ### digits as they lie -/
abbrev d32 (d : Nat) : FV := .int .u32 (d : Int)
abbrev d64 (d : Nat) : FV := .int .i64 (d : Int)
abbrev L32 (l : List Nat) : FV := .list 1 (l.map d32)
abbrev L64 (l : List Nat) : FV := .list 1 (l.map d64)

theorem d32_at {l : List Nat} {i : Nat} (h : i < l.length) : at' (l.map d32) i 0 = some (.int .u32 (l[i] : Int)) := by rw [at_map, List.getElem?_eq_getElem h]; rfl
theorem d64_at {l : List Nat} {i : Nat} (h : i < l.length) : at' (l.map d64) i 0 = some (.int .i64 (l[i] : Int)) := by rw [at_map, List.getElem?_eq_getElem h]; rfl

/-! ### what is borrowed -/
theorem bit_and (A B : BitVec 32) : bitI .and .u32 (A.toNat : Int) (B.toNat : Int) = ((A &&& B).toNat : Int) := by
  show IntKind.wrap .u32 (((BitVec.ofInt 32 (A.toNat : Int) &&& BitVec.ofInt 32 (B.toNat : Int)).toNat : Nat) : Int) = _
  rw [BitVec.ofInt_natCast, BitVec.ofInt_natCast, BitVec.ofNat_toNat, BitVec.ofNat_toNat, BitVec.setWidth_eq, BitVec.setWidth_eq, wrap_u32_id (A &&& B).isLt]
theorem bit_or (A B : BitVec 32) : bitI .or .u32 (A.toNat : Int) (B.toNat : Int) = ((A ||| B).toNat : Int) := by
  show IntKind.wrap .u32 (((BitVec.ofInt 32 (A.toNat : Int) ||| BitVec.ofInt 32 (B.toNat : Int)).toNat : Nat) : Int) = _
  rw [BitVec.ofInt_natCast, BitVec.ofInt_natCast, BitVec.ofNat_toNat, BitVec.ofNat_toNat, BitVec.setWidth_eq, BitVec.setWidth_eq, wrap_u32_id (A ||| B).isLt]
theorem bit_xor (A B : BitVec 32) : bitI .xor .u32 (A.toNat : Int) (B.toNat : Int) = ((A ^^^ B).toNat : Int) := by
  show IntKind.wrap .u32 (((BitVec.ofInt 32 (A.toNat : Int) ^^^ BitVec.ofInt 32 (B.toNat : Int)).toNat : Nat) : Int) = _
  rw [BitVec.ofInt_natCast, BitVec.ofInt_natCast, BitVec.ofNat_toNat, BitVec.ofNat_toNat, BitVec.setWidth_eq, BitVec.setWidth_eq, wrap_u32_id (A ^^^ B).isLt]
theorem bit_not (A : BitVec 32) : bitI .xor .u32 (4294967295 : Int) (A.toNat : Int) = ((~~~A).toNat : Int) := by
  have h := bit_xor (BitVec.allOnes 32) A
  rw [show ((BitVec.allOnes 32).toNat : Int) = 4294967295 from rfl, BitVec.allOnes_xor] at h
  exact h

theorem top_bit (A : BitVec 32) : A.toNat / 2 ^ 31 = if A.msb then 1 else 0 := by
  have h := A.isLt
  rw [BitVec.msb_eq_decide]
  simp only [Nat.reduceSub, decide_eq_true_eq]
  split <;> omega

/-- Sub32's second result -/
theorem borrow_bit {x y br : Nat} (hx : x < 4294967296) (hy : y < 4294967296) (hb : br ≤ 1) :
    shI false .u32 (bitI .or .u32 (bitI .and .u32 (bitI .xor .u32 4294967295 (x : Int)) (y : Int)) (bitI .and .u32 (bitI .xor .u32 4294967295 (bitI .xor .u32 (x : Int) (y : Int))) (((4294967296 + x - y - br) % 4294967296 : Nat) : Int))) 31 =
      ((if x < y + br then 1 else 0 : Nat) : Int) := by
  obtain ⟨X, hX⟩ : ∃ X : BitVec 32, X.toNat = x := ⟨BitVec.ofNat 32 x, by simp; omega⟩
  obtain ⟨Y, hY⟩ : ∃ X : BitVec 32, X.toNat = y := ⟨BitVec.ofNat 32 y, by simp; omega⟩
  obtain ⟨D, hD⟩ : ∃ X : BitVec 32, X.toNat = (4294967296 + x - y - br) % 4294967296 := ⟨BitVec.ofNat 32 (4294967296 + x - y - br), by simp⟩
  rw [← hX, ← hY] at *
  rw [← hD, bit_not, bit_and, bit_xor, bit_not, bit_and, bit_or]
  have := shr_nat .u32 ((~~~X &&& Y ||| ~~~(X ^^^ Y) &&& D).toNat) 31 (by decide)
  rw [show ((31 : Nat) : Int) = 31 from rfl] at this
  rw [this, top_bit, BitVec.msb_or, BitVec.msb_and, BitVec.msb_and, BitVec.msb_not, BitVec.msb_not, BitVec.msb_xor]
  have mX : X.msb = decide (2147483648 ≤ X.toNat) := by rw [BitVec.msb_eq_decide]
  have mY : Y.msb = decide (2147483648 ≤ Y.toNat) := by rw [BitVec.msb_eq_decide]
  have mD : D.msb = decide (2147483648 ≤ D.toNat) := by rw [BitVec.msb_eq_decide]
  rw [mX, mY, mD, hD]
  congr 1
  by_cases a1 : 2147483648 ≤ X.toNat <;> by_cases a2 : 2147483648 ≤ Y.toNat <;> by_cases a3 : 2147483648 ≤ (4294967296 + X.toNat - Y.toNat - br) % 4294967296 <;> simp [a1, a2, a3] <;> omega

end Rf
end

section
/- Contracts of the library's functions that are made by hand: what they say. -/
namespace Rf
open Go

/-- a text of these bytes -/
def txt (l : List UInt8) : ByteArray := ⟨l.toArray⟩

def dgts : List UInt8 := [48, 49, 50, 51, 52, 53, 54, 55, 56, 57]

/-- without what is in a cutset, at both ends -/
def trimL (l cs : List UInt8) : List UInt8 := ((l.reverse.dropWhile (cs.contains ·)).reverse).dropWhile (cs.contains ·)

def cloneExt : List FV → Option (List FV)
  | [.list 1 xs] => if xs ≠ [] ∧ xs.length ≤ 1099511627776 ∧ xs.all (fun x => match x with | .int .u32 _ => true | _ => false) = true then some [.list 1 xs] else none
  | _ => none

def formatExt : List FV → Option (List FV)
  | [.int .u64 n, .int .i64 b] => if 0 ≤ n ∧ n < 1000000000000 ∧ b = 10 then some [.str (txt (dtext n.toNat))] else none
  | _ => none

def repeatExt : List FV → Option (List FV)
  | [.str s, .int .i64 k] => if s.data.toList = [48] ∧ 0 ≤ k ∧ k ≤ 9 then some [.str (txt (List.replicate k.toNat 48))] else none
  | _ => none

def byts : FV → List UInt8
  | .str s => s.data.toList
  | _ => []
def strOk : FV → Bool
  | .str _ => true
  | _ => false

def joinExt : List FV → Option (List FV)
  | [.list 1 xs, .str sep] => if sep.data.toList = [] ∧ xs.all strOk = true ∧ xs.length ≤ 1099511627776 ∧ ((xs.map byts).flatten).length ≤ 1099511627776 then some [.str (txt ((xs.map byts).flatten))] else none
  | _ => none

def trimExt : List FV → Option (List FV)
  | [.str s, .str c] => if c.data.toList = dgts ∧ s.data.toList.length ≤ 1099511627776 then some [.str (txt (trimL s.data.toList dgts))] else none
  | _ => none

def parseExt : List FV → Option (List FV)
  | [.str s, .int .i64 b, .int .i64 z] => if s.data.toList ≠ [] ∧ s.data.toList.length ≤ 9 ∧ s.data.toList.all isD = true ∧ b = 10 ∧ z = 32 then some [.int .u64 (vD s.data.toList : Int), .raw .nilIface] else none
  | _ => none

/-- where this byte stands first -/
def ixB : List UInt8 → UInt8 → Int
  | [], _ => -1
  | b :: l, c => if b == c then 0 else if ixB l c == -1 then -1 else ixB l c + 1

def idxExt : List FV → Option (List FV)
  | [.str s, .int .u8 c] => some [.int .i64 (ixB s.data.toList c.toNat.toUInt8)]
  | _ => none

/-! ### ledgers -/
/-- may this rune stand in a name? -/
def runeOk (r : Nat) : Bool := (decide (97 ≤ r) && decide (r ≤ 122)) || (decide (945 ≤ r) && decide (r ≤ 969)) || (decide (48 ≤ r) && decide (r ≤ 57)) || decide (r = 45)
def acctF (s : ByteArray) : Nat → Nat → Nat → Bool
  | 0, _, n => decide (1 ≤ n) && decide (n ≤ 24)
  | b + 1, pos, n => if pos < s.size then (if runeOk (Utf8.decode s pos).1 = true then acctF s b (pos + (Utf8.decode s pos).2) (n + 1) else false) else decide (1 ≤ n) && decide (n ≤ 24)
/-- may this be an account's name? -/
def acct (s : ByteArray) : Bool := acctF s s.size 0 0
def acctExt : List FV → Option (List FV)
  | [.str s] => if s.size ≤ 1099511627776 then some [.bool (acct s)] else none
  | _ => none

def extT : Nat → Option (List FV → Option (List FV)) := fun f => lookN f [(148, cloneExt), (154, formatExt), (155, repeatExt), (157, joinExt), (160, trimExt), (161, parseExt), (192, idxExt), (35, acctExt), (25, acctExt)]

def extT1 : Nat → Option (List FV → Option (List FV)) := fun f => lookN f [(148, cloneExt), (154, formatExt), (155, repeatExt), (157, joinExt), (160, trimExt), (161, parseExt), (192, idxExt), (35, acctExt), (25, acctExt)]

end Rf
end

section
/- Texts as lists of bytes: how they are joined, cut, looked at. -/
set_option linter.unusedSimpArgs false
set_option linter.unusedVariables false
namespace Rf
open Go

theorem txt_data (l : List UInt8) : (txt l).data.toList = l := by simp [txt]
theorem txt_of (s : ByteArray) : txt s.data.toList = s := rfl
theorem txt_size (l : List UInt8) : (txt l).size = l.length := by simp [txt, ByteArray.size]
theorem txt_inj {a b : List UInt8} (h : txt a = txt b) : a = b := by rw [← txt_data a, h, txt_data]
theorem txt_eq {a b : List UInt8} : txt a = txt b ↔ a = b := ⟨txt_inj, fun h => by rw [h]⟩
theorem txt_app (a b : List UInt8) : txt a ++ txt b = txt (a ++ b) := by
  apply ByteArray.ext
  rw [ByteArray.data_append]
  simp [txt]
theorem txt_extract (l : List UInt8) (i j : Nat) : (txt l).extract i j = txt ((l.take j).drop i) := by
  apply ByteArray.ext
  rw [ByteArray.data_extract]
  apply Array.ext'
  rw [List.drop_take]
  simp [txt]
theorem txt_at (l : List UInt8) (i : Nat) : strAt (txt l) (i : Int) = (l[i]?).map fun b => (b.toNat : Int) := by
  unfold strAt
  rw [if_pos (by omega), Int.toNat_natCast]
  congr 1
  by_cases h : i < l.length
  · rw [List.getElem?_eq_getElem h, getElem?_pos _ _ (by rw [txt_size]; exact h)]
    rfl
  · rw [List.getElem?_eq_none (by omega), getElem?_neg _ _ (by rw [txt_size]; exact h)]

theorem txt_beq (a b : List UInt8) : ((txt a).toList == (txt b).toList) = decide (a = b) := by
  rw [toList_eq]
  simp [txt_eq]

/-- a text as a leaf -/
abbrev sF (l : List UInt8) : FV := .str (txt l)

theorem sF_at {P : List (List UInt8)} {i : Nat} (h : i < P.length) : at' (P.map sF) i 0 = some (.str (txt P[i])) := by rw [at_map, List.getElem?_eq_getElem h]; rfl

end Rf
end

section
/- A ledger as a list of names that rise, each with its balance: plain law. -/
set_option linter.unusedSimpArgs false
set_option linter.unusedVariables false
namespace Rf
open Go

abbrev LK := List UInt8
abbrev LS := List (LK × Int)

theorem klt_irr (a : LK) : ¬ a < a := List.lt_irrefl a
theorem klt_tr {a b c : LK} (h : a < b) (h' : b < c) : a < c := List.lt_trans h h'
theorem klt_tri {a b : LK} (h : ¬ a < b) (h' : a ≠ b) : b < a := by
  rcases Decidable.em (b < a) with q | q
  · exact q
  · exact absurd (List.le_antisymm (List.not_lt.1 q) (List.not_lt.1 h)) h'

/-- so much more on this account -/
def ladd : LS → LK → Int → LS
  | [], k, z => [(k, z)]
  | (a, x) :: r, k, z => if a < k then (a, x) :: ladd r k z else if a = k then (a, x + z) :: r else (k, z) :: (a, x) :: r

def lget : LS → LK → Int
  | [], _ => 0
  | (a, x) :: r, k => if a = k then x else lget r k

def Asc (S : LS) : Prop := S.Pairwise fun a b => a.1 < b.1

theorem mem_add (k : LK) (z : Int) (q : LK) : ∀ S : LS, q ∈ (ladd S k z).map (·.1) ↔ q = k ∨ q ∈ S.map (·.1)
  | [] => by simp [ladd]
  | (a, x) :: r => by
    unfold ladd
    split
    · rw [List.map_cons, List.mem_cons, mem_add k z q r, List.map_cons, List.mem_cons]
      constructor
      · rintro (h | h | h) <;> simp [h]
      · rintro (h | h | h) <;> simp [h]
    · split
      · rename_i h
        subst h
        simp
      · simp

theorem asc_add (k : LK) (z : Int) : ∀ {S : LS}, Asc S → Asc (ladd S k z)
  | [], _ => by simp [ladd, Asc]
  | (a, x) :: r, h => by
    have h' := List.pairwise_cons.1 h
    unfold ladd
    split
    · rename_i hlt
      refine List.pairwise_cons.2 ⟨fun p hp => ?_, asc_add k z h'.2⟩
      rcases (mem_add k z p.1 r).1 (List.mem_map.2 ⟨p, hp, rfl⟩) with e | e
      · rw [e]; exact hlt
      · obtain ⟨p', hp', e⟩ := List.mem_map.1 e
        rw [← e]; exact h'.1 p' hp'
    · rename_i hlt
      split
      · exact List.pairwise_cons.2 ⟨fun p hp => h'.1 p hp, h'.2⟩
      · rename_i hne
        have hk := klt_tri hlt hne
        refine List.pairwise_cons.2 ⟨fun p hp => ?_, h⟩
        rcases List.mem_cons.1 hp with rfl | hp
        · exact hk
        · exact klt_tr hk (h'.1 p hp)

theorem lget_below {k : LK} : ∀ {S : LS}, (∀ p, p ∈ S → k < p.1) → lget S k = 0
  | [], _ => rfl
  | (a, x) :: r, h => by
    have h1 := h (a, x) (by simp)
    rw [lget, if_neg (fun e => by subst e; exact klt_irr _ h1)]
    exact lget_below fun p hp => h p (by simp [hp])

theorem lget_add (k : LK) (z : Int) (q : LK) : ∀ {S : LS}, Asc S → lget (ladd S k z) q = if k = q then lget S k + z else lget S q
  | [], _ => by
    simp only [ladd, lget]
    split <;> simp
  | (a, x) :: r, h => by
    have h' := List.pairwise_cons.1 h
    unfold ladd
    split
    · rename_i hlt
      have hne : a ≠ k := fun e => by subst e; exact klt_irr _ hlt
      rw [lget, lget_add k z q h'.2]
      by_cases haq : a = q
      · subst haq
        rw [if_pos rfl, if_neg (Ne.symm hne), lget, if_pos rfl]
      · rw [if_neg haq, lget, if_neg hne, lget, if_neg haq]
    · split
      · rename_i _ hak
        subst hak
        rw [lget]
        by_cases haq : a = q
        · subst haq; simp [lget]
        · rw [if_neg haq, if_neg haq, lget, if_neg haq]
      · rename_i hlt hne
        have hk := klt_tri hlt hne
        rw [lget]
        have h0 : lget ((a, x) :: r) k = 0 := lget_below fun p hp => by
          rcases List.mem_cons.1 hp with rfl | hp
          · exact hk
          · exact klt_tr hk (h'.1 p hp)
        by_cases hkq : k = q
        · subst hkq; rw [if_pos rfl, if_pos rfl, h0]; simp
        · rw [if_neg hkq, if_neg hkq]

theorem asc_ext : ∀ {S T : LS}, Asc S → Asc T → (∀ k, k ∈ S.map (·.1) ↔ k ∈ T.map (·.1)) → (∀ k, lget S k = lget T k) → S = T
  | [], [], _, _, _, _ => rfl
  | [], (b, y) :: t, _, _, h, _ => absurd ((h b).2 (by simp)) (by simp)
  | (a, x) :: r, [], _, _, h, _ => absurd ((h a).1 (by simp)) (by simp)
  | (a, x) :: r, (b, y) :: t, hs, ht, hm, hg => by
    have hs' := List.pairwise_cons.1 hs
    have ht' := List.pairwise_cons.1 ht
    have nin : ∀ {c : LK} {z : Int} {l : LS}, (∀ p, p ∈ l → c < p.1) → c ∉ l.map (·.1) := fun hl hc => by
      obtain ⟨p, hp, e⟩ := List.mem_map.1 hc
      have := hl p hp
      rw [e] at this
      exact klt_irr _ this
    have hab : a = b := by
      by_cases hab : a = b
      · exact hab
      have h1 : a ∈ t.map (·.1) := by have := (hm a).1 (by simp); simpa [hab] using this
      have h2 : b ∈ r.map (·.1) := by have := (hm b).2 (by simp); simpa [Ne.symm hab] using this
      obtain ⟨p, hp, rfl⟩ := List.mem_map.1 h1
      obtain ⟨q, hq, rfl⟩ := List.mem_map.1 h2
      exact absurd (klt_tr (ht'.1 p hp) (hs'.1 q hq)) (klt_irr _)
    subst hab
    have hxy : x = y := by have := hg a; simpa [lget] using this
    subst hxy
    have : r = t := asc_ext hs'.2 ht'.2 (fun k => by
      have := hm k
      simp only [List.map_cons, List.mem_cons] at this
      by_cases hk : k = a
      · subst hk
        exact ⟨fun q => absurd q (nin (z := 0) hs'.1), fun q => absurd q (nin (z := 0) ht'.1)⟩
      · simpa [hk] using this) (fun k => by
      have := hg k
      simp only [lget] at this
      by_cases hk : a = k
      · subst hk
        rw [lget_below hs'.1, lget_below ht'.1]
      · simpa [hk] using this)
    rw [this]

theorem ladd_comm {S : LS} (h : Asc S) (k k' : LK) (z z' : Int) : ladd (ladd S k z) k' z' = ladd (ladd S k' z') k z := by
  refine asc_ext (asc_add _ _ (asc_add _ _ h)) (asc_add _ _ (asc_add _ _ h)) (fun q => ?_) fun q => ?_
  · rw [mem_add, mem_add, mem_add, mem_add]
    constructor
    · rintro (h | h | h) <;> simp [h]
    · rintro (h | h | h) <;> simp [h]
  · rw [lget_add _ _ _ (asc_add _ _ h), lget_add _ _ _ h, lget_add _ _ _ h, lget_add _ _ _ (asc_add _ _ h), lget_add _ _ _ h, lget_add _ _ _ h]
    by_cases h1 : k' = q <;> by_cases h2 : k = q <;> by_cases h3 : k = k' <;> simp_all <;> omega

theorem ladd_ladd {S : LS} (h : Asc S) (k : LK) (x z : Int) : ladd (ladd S k x) k z = ladd S k (x + z) := by
  refine asc_ext (asc_add _ _ (asc_add _ _ h)) (asc_add _ _ h) (fun q => ?_) fun q => ?_
  · rw [mem_add, mem_add, mem_add]
    constructor
    · rintro (h | h | h) <;> simp [h]
    · rintro (h | h) <;> simp [h]
  · rw [lget_add _ _ _ (asc_add _ _ h), lget_add _ _ _ h, lget_add _ _ _ h, lget_add _ _ _ h]
    by_cases h1 : k = q <;> simp [h1] <;> omega

/-- all of these put on -/
def lpost (S : LS) (l : LS) : LS := l.foldl (fun S p => ladd S p.1 p.2) S

theorem lpost_cons (S : LS) (p : LK × Int) (l : LS) : lpost S (p :: l) = lpost (ladd S p.1 p.2) l := rfl
theorem lpost_app (S : LS) (l l' : LS) : lpost S (l ++ l') = lpost (lpost S l) l' := List.foldl_append ..
theorem asc_post : ∀ {l : LS} {S : LS}, Asc S → Asc (lpost S l)
  | [], _, h => h
  | p :: l, _, h => asc_post (l := l) (asc_add _ _ h)

theorem lpost_add {k : LK} {z : Int} : ∀ {l : LS} {S : LS}, Asc S → lpost (ladd S k z) l = ladd (lpost S l) k z
  | [], _, _ => rfl
  | p :: l, S, h => by rw [lpost_cons, lpost_cons, ladd_comm h, lpost_add (asc_add _ _ h)]

theorem lpost_perm {l l' : LS} (hp : l.Perm l') : ∀ {S : LS}, Asc S → lpost S l = lpost S l' := by
  induction hp with
  | nil => intro S h; rfl
  | cons p _ ih => intro S h; rw [lpost_cons, lpost_cons]; exact ih (asc_add _ _ h)
  | swap p q l => intro S h; rw [lpost_cons, lpost_cons, lpost_cons, lpost_cons, ladd_comm h]
  | trans _ _ ih1 ih2 => intro S h; exact (ih1 h).trans (ih2 h)

theorem lpost_mem {q : LK} : ∀ {l S : LS}, q ∈ (lpost S l).map (·.1) ↔ q ∈ l.map (·.1) ∨ q ∈ S.map (·.1)
  | [], S => by simp [lpost]
  | p :: l, S => by
    rw [lpost_cons, lpost_mem, mem_add, List.map_cons, List.mem_cons]
    constructor
    · rintro (h | h | h) <;> simp [h]
    · rintro ((h | h) | h) <;> simp [h]

/-- what stands there added up: at the end if it is new -/
def dadd : LS → LK → Int → LS
  | [], k, z => [(k, z)]
  | (a, x) :: r, k, z => if a = k then (a, x + z) :: r else (a, x) :: dadd r k z

theorem lpost_dadd {k : LK} {z : Int} : ∀ {D S : LS}, Asc S → lpost S (dadd D k z) = ladd (lpost S D) k z
  | [], _, _ => rfl
  | (a, x) :: r, S, h => by
    unfold dadd
    split
    · rename_i e
      subst e
      rw [lpost_cons, lpost_cons, ← lpost_add (asc_add _ _ h), ladd_ladd h]
    · rw [lpost_cons, lpost_cons, lpost_dadd (asc_add _ _ h)]

/-- what is read of a list of entries -/
def dpost (l : LS) : LS := l.foldl (fun D p => dadd D p.1 p.2) []
theorem lpost_dpost_from : ∀ (l D : LS) {S : LS}, Asc S → lpost S (l.foldl (fun D p => dadd D p.1 p.2) D) = lpost (lpost S D) l
  | [], _, _, _ => rfl
  | p :: l, D, S, h => by
    rw [List.foldl_cons, lpost_dpost_from l _ h, lpost_dadd h, lpost_cons]
theorem lpost_dpost {l S : LS} (h : Asc S) : lpost S (dpost l) = lpost S l := lpost_dpost_from l [] h

theorem dadd_keys (k : LK) (z : Int) : ∀ (D : LS) (q : LK), q ∈ (dadd D k z).map (·.1) ↔ q = k ∨ q ∈ D.map (·.1)
  | [], q => by simp [dadd]
  | (a, x) :: r, q => by
    unfold dadd
    split
    · rename_i e; subst e; simp
    · rw [List.map_cons, List.mem_cons, dadd_keys k z r q, List.map_cons, List.mem_cons]
      constructor
      · rintro (h | h | h) <;> simp [h]
      · rintro (h | h | h) <;> simp [h]
theorem dadd_nodup (k : LK) (z : Int) : ∀ {D : LS}, (D.map (·.1)).Nodup → ((dadd D k z).map (·.1)).Nodup
  | [], _ => by simp [dadd]
  | (a, x) :: r, h => by
    rw [List.map_cons, List.nodup_cons] at h
    unfold dadd
    split
    · rw [List.map_cons, List.nodup_cons]; exact h
    · rename_i hne
      rw [List.map_cons, List.nodup_cons]
      refine ⟨fun q => ?_, dadd_nodup k z h.2⟩
      rcases (dadd_keys k z r a).1 q with e | e
      · exact hne e
      · exact h.1 e

theorem asc_nodup {S : LS} (h : Asc S) : (S.map (·.1)).Nodup := by
  rw [List.nodup_iff_pairwise_ne, List.pairwise_map]
  exact h.imp fun hab e => by rw [e] at hab; exact klt_irr _ hab

/-- the sum of all -/
def lsum (S : LS) : Int := (S.map (·.2)).foldr (· + ·) 0
theorem lsum_add (k : LK) (z : Int) : ∀ S : LS, lsum (ladd S k z) = lsum S + z
  | [] => by simp [ladd, lsum]
  | (a, x) :: r => by
    unfold ladd
    have ih := lsum_add k z r
    simp only [lsum] at ih
    split
    · simp only [lsum, List.map_cons, List.foldr_cons, ih]; omega
    · split
      · simp only [lsum, List.map_cons, List.foldr_cons]; omega
      · simp only [lsum, List.map_cons, List.foldr_cons]; omega
theorem lsum_post : ∀ (l S : LS), lsum (lpost S l) = lsum S + lsum l
  | [], S => by simp [lpost, lsum]
  | p :: l, S => by rw [lpost_cons, lsum_post l, lsum_add]; simp only [lsum, List.map_cons, List.foldr_cons]; omega

/-- no balance greater than this -/
def Lim (S : LS) (b : Nat) : Prop := ∀ p, p ∈ S → p.2.natAbs ≤ b
theorem Lim.add {k : LK} {z : Int} : ∀ {S : LS} {b : Nat}, Lim S b → Lim (ladd S k z) (b + z.natAbs)
  | [], b, _ => fun p hp => by simp [ladd] at hp; subst hp; simp only; omega
  | (a, x) :: r, b, h => fun p hp => by
    have hr : Lim r b := fun p hp => h p (by simp [hp])
    have hx := h (a, x) (by simp)
    simp only at hx
    unfold ladd at hp
    split at hp
    · rcases List.mem_cons.1 hp with rfl | hp
      · simp only; omega
      · exact Lim.add hr p hp
    · split at hp
      · rcases List.mem_cons.1 hp with rfl | hp
        · simp only; omega
        · have := hr p hp; omega
      · rcases List.mem_cons.1 hp with rfl | hp
        · simp only; omega
        · have := h p hp; omega
theorem Lim.mono {S : LS} {a b : Nat} (h : Lim S a) (hab : a ≤ b) : Lim S b := fun p hp => Nat.le_trans (h p hp) hab
/-- all of them together, each as far as it is from nothing -/
def lsz (l : LS) : Nat := (l.map fun p => p.2.natAbs).foldr (· + ·) 0
theorem Lim.post : ∀ {l S : LS} {b : Nat}, Lim S b → Lim (lpost S l) (b + lsz l)
  | [], _, _, h => h
  | p :: l, _, _, h => by
    rw [lpost_cons]
    refine (Lim.post (l := l) h.add).mono ?_
    simp only [lsz, List.map_cons, List.foldr_cons]
    omega
theorem lget_lim {S : LS} {b : Nat} (h : Lim S b) (k : LK) : (lget S k).natAbs ≤ b := by
  induction S with
  | nil => simp [lget]
  | cons p r ih =>
    obtain ⟨a, x⟩ := p
    rw [lget]
    split
    · exact h (a, x) (by simp)
    · exact ih fun p hp => h p (by simp [hp])

end Rf
end

section
/- What the contracts of a ledger's functions say. -/
set_option linter.unusedVariables false
namespace Rf
open Go

/-- a whole number -/
def zN (z : Int) : FV := .agg [L32 (dg 4294967296 z.natAbs), .bool (decide (z < 0))]
/-- accounts as a map's entries -/
def stE (S : LS) : List FV := S.map fun p => .agg [.str (txt p.1), zN p.2, .int .i64 0]
open Classical in
/-- and out of them -/
noncomputable def stO (es : List FV) : Option LS := if h : ∃ S, es = stE S ∧ Asc S then some h.choose else none

/-- entries of a transaction: account, cents -/
abbrev EL := List (ByteArray × ByteArray)
def enF (p : ByteArray × ByteArray) : FV := .agg [.str p.1, .str p.2]
def enO : List FV → Option EL
  | [] => some []
  | .agg [.str a, .str c] :: r => (enO r).map fun l => (a, c) :: l
  | _ :: _ => none

/-- what is wrong with an entry, or what it says -/
noncomputable def rdE : EL → Int ⊕ LS
  | [] => .inr []
  | (a, c) :: r => if acct a = true then (match pz c.data.toList with
    | none => .inl 10
    | some z => match rdE r with
      | .inl e => .inl e
      | .inr l => .inr ((a.data.toList, z) :: l)) else .inl 190
/-- what is wrong with a transaction, or what it says -/
noncomputable def rdL (l : EL) : Int ⊕ LS :=
  if l.length = 0 then .inl 1 else if 64 < l.length then .inl 82 else match rdE l with
  | .inl e => .inl e
  | .inr d => if lsum d = 0 then .inr d else .inl 191

/-- texts of a size that may be -/
def smallE (l : EL) : Bool := l.all fun p => decide (p.1.size ≤ 1048576) && decide (p.2.size ≤ 1048576)

open Classical in
noncomputable def postExt : List FV → Option (List FV)
  | [.list 3 es, .int .i64 clk, .int .i64 n, .list 2 xs] => match stO es, enO xs with
    | some S, some l => if smallE l = true ∧ Lim S (2 ^ 1000000) ∧ 0 ≤ n ∧ n ≤ 1000000 then (match rdL l with
      | .inl e => some [.list 3 es, .int .i64 clk, .int .i64 n, .int .i64 e]
      | .inr d => some [.list 3 (stE (lpost S d)), .int .i64 (-1), .int .i64 (n + 1), .int .i64 0]) else none
    | _, _ => none
  | _ => none

/-- what is wrong with it -/
noncomputable def rdC (l : EL) : Int := match rdL l with | .inl e => e | .inr _ => 0
noncomputable def readExt : List FV → Option (List FV)
  | [.list 2 xs] => match enO xs with
    | some l => if smallE l = true then some [.int .i64 (rdC l)] else none
    | none => none
  | _ => none

open Classical in
noncomputable def trialExt : List FV → Option (List FV)
  | [.list 3 es, .int .i64 clk, .int .i64 n] => match stO es with
    | some S => if Lim S (2 ^ 1000001) ∧ S.length ≤ 1000000 ∧ (∀ p, p ∈ S → p.1.length ≤ 1048576) then some [.list 3 es, .int .i64 clk, .int .i64 n, .list 2 (S.map fun p => .agg [.str (txt p.1), .str (txt (ztext p.2))])] else none
    | none => none
  | _ => none

/-- two lists of entries that are one list -/
noncomputable def sameExt : List FV → Option (List FV)
  | [.list 2 xs, .list 2 ys] => match enO xs, enO ys with
    | some l, some l' => if l = l' ∧ l.length ≤ 1000000000 then some [.bool true] else none
    | _, _ => none
  | _ => none

end Rf
end

section
/- A ledger's accounts as a map's entries, in whatever order: what is read, what is written. -/
set_option linter.unusedSimpArgs false
set_option linter.unusedVariables false
namespace Rf
open Go

/-- a name as a key -/
abbrev sK (q : LK) : FV := .str (txt q)
theorem sK_inj {a b : LK} (h : sK a = sK b) : a = b := txt_inj (by simpa using h)

theorem d32_inj : ∀ {l m : List Nat}, l.map d32 = m.map d32 → l = m
  | [], [], _ => rfl
  | [], _ :: _, h => by simp at h
  | _ :: _, [], h => by simp at h
  | x :: l, y :: m, h => by
    simp only [List.map_cons, List.cons.injEq, FV.int.injEq, true_and] at h
    rw [d32_inj h.2]
    congr 1
    exact Int.ofNat.inj h.1

theorem zN_inj {a b : Int} (h : zN a = zN b) : a = b := by
  simp only [zN, FV.agg.injEq, List.cons.injEq, FV.list.injEq, true_and, and_true, FV.bool.injEq] at h
  obtain ⟨h1, h2⟩ := h
  have h3 : a.natAbs = b.natAbs := by
    have := congrArg (vl 4294967296) (d32_inj h1)
    rwa [vl_dg (by decide), vl_dg (by decide)] at this
  have h4 := decide_eq_decide.1 h2
  omega

theorem zN_zero : zN 0 = .agg [.list 1 [], .bool false] := by
  unfold zN
  rw [show (0 : Int).natAbs = 0 from rfl, dg_zero]
  rfl

theorem stE_inj : ∀ {S T : LS}, stE S = stE T → S = T
  | [], [], _ => rfl
  | [], _ :: _, h => by simp [stE] at h
  | _ :: _, [], h => by simp [stE] at h
  | (a, x) :: S, (b, y) :: T, h => by
    simp only [stE, List.map_cons, List.cons.injEq, FV.agg.injEq, and_true] at h
    obtain ⟨⟨h1, h2⟩, h3⟩ := h
    rw [stE_inj (S := S) (T := T) h3, sK_inj h1, zN_inj h2]

theorem stO_stE {S : LS} (h : Asc S) : stO (stE S) = some S := by
  unfold stO
  have hx : ∃ T, stE S = stE T ∧ Asc T := ⟨S, rfl, h⟩
  rw [dif_pos hx]
  exact congrArg some (stE_inj hx.choose_spec.1).symm

theorem stO_some {es : List FV} {S : LS} (h : stO es = some S) : es = stE S ∧ Asc S := by
  unfold stO at h
  split at h
  · rename_i hx
    cases h
    exact hx.choose_spec
  · cases h

theorem enO_map : ∀ l : EL, enO (l.map enF) = some l
  | [] => rfl
  | p :: l => by simp only [List.map_cons, enF, enO, enO_map l]; rfl

theorem enO_some : ∀ {xs : List FV} {l : EL}, enO xs = some l → xs = l.map enF
  | [], l, h => by simp [enO] at h; subst h; rfl
  | x :: r, l, h => by
    unfold enO at h
    split at h
    · simp at *
    · rename_i a c r' heq
      cases heq
      cases hr : enO r with
      | none => rw [hr] at h; cases h
      | some l' =>
        rw [hr] at h
        simp only [Option.map_some, Option.some.injEq] at h
        subst h
        rw [enO_some hr]
        rfl
    · cases h

/-! ### keys -/
/-- the name that a key is -/
def kOf (k : FV) : Option LK := match k.cells with
  | [.str a] => some a.data.toList
  | _ => none

theorem keq_sK (k : FV) (q : LK) : keq k (sK q) = decide (kOf k = some q) := by
  unfold keq kOf
  rw [show (sK q).cells = [sK q] from rfl]
  cases hc : k.cells with
  | nil => simp [keqs]
  | cons x r =>
    cases r with
    | cons y r => cases x <;> simp [keqs]
    | nil =>
      cases x with
      | str a =>
        simp only [keqs, keq1, Bool.and_true, toList_eq, Option.some.injEq]
        rw [show a = txt a.data.toList from rfl]
        simp only [txt_eq, txt_data]
      | _ => simp [keqs, keq1]

theorem kOf_sK (q : LK) : kOf (sK q) = some q := by simp [kOf, FV.cells, txt_data]
theorem keq_sK2 (a b : LK) : keq (sK a) (sK b) = decide (a = b) := by rw [keq_sK, kOf_sK]; simp

theorem mget_stE (k : FV) : ∀ S : LS, mgetD (stE S) k (zN 0) = match kOf k with | some q => zN (lget S q) | none => zN 0
  | [] => by cases h : kOf k <;> simp [stE, mgetD, lget]
  | (a, x) :: r => by
    have ih := mget_stE k r
    simp only [stE, List.map_cons, mgetD, entKey, entVal] at ih ⊢
    rw [keq_sK, ih]
    cases h : kOf k with
    | none => simp
    | some q =>
      simp only [Option.some.injEq, lget]
      by_cases e : q = a
      · subst e; simp
      · simp [e, Ne.symm e]

theorem mhas_stE (k : FV) : ∀ S : LS, mhas (stE S) k = match kOf k with | some q => decide (q ∈ S.map (·.1)) | none => false
  | [] => by cases h : kOf k <;> simp [stE, mhas]
  | (a, x) :: r => by
    have ih := mhas_stE k r
    simp only [stE, List.map_cons, mhas, List.any_cons, entKey] at ih ⊢
    rw [keq_sK, ih]
    cases h : kOf k with
    | none => simp
    | some q => simp only [Option.some.injEq, List.mem_cons]; by_cases e : q = a <;> simp [e]

theorem keys_stE (S : LS) : (stE S).map entKey = (S.map (·.1)).map sK := by
  unfold stE
  rw [List.map_map, List.map_map]
  rfl

/-- entries that are these accounts, in whatever order -/
def Acc (es : List FV) (S : LS) : Prop := (∀ k, mgetD es k (zN 0) = mgetD (stE S) k (zN 0)) ∧ ∃ ks : List LK, es.map entKey = ks.map sK ∧ ks.Perm (S.map (·.1))

theorem keys_of_perm {l : List FV} {ks : List LK} (h : l.Perm (ks.map sK)) : ∃ ks' : List LK, l = ks'.map sK ∧ ks'.Perm ks := by
  let u : FV → LK := fun x => match x with | .str a => a.data.toList | _ => []
  have hu : ∀ q, u (sK q) = q := fun q => txt_data q
  refine ⟨l.map u, ?_, ?_⟩
  · rw [List.map_map]
    have : ∀ x ∈ l, (sK ∘ u) x = id x := fun x hx => by
      obtain ⟨q, _, rfl⟩ := List.mem_map.1 (h.mem_iff.1 hx)
      simp [hu]
    rw [List.map_congr_left this, List.map_id]
  · have := h.map u
    have e : ks.map (u ∘ sK) = ks := (List.map_congr_left (g := id) fun q _ => hu q).trans (List.map_id ks)
    rwa [List.map_map, e] at this

theorem Acc.like {es : List FV} {S : LS} (h : Acc es S) (c : Nat) : Like (zN 0) es (stE S) (-1) c :=
  .inr ⟨rfl, h.1, by
    obtain ⟨ks, h1, h2⟩ := h.2
    rw [h1, keys_stE]
    exact h2.map sK⟩

theorem Acc.of {es : List FV} {S : LS} {clk : Int} {c : Nat} (h : Like (zN 0) es (stE S) clk c) : Acc es S := by
  rcases h with ⟨_, rfl⟩ | ⟨_, h1, h2⟩
  · exact ⟨fun _ => rfl, _, keys_stE S, .refl _⟩
  · rw [keys_stE] at h2
    exact ⟨h1, keys_of_perm h2⟩

theorem Acc.get {es : List FV} {S : LS} (h : Acc es S) (q : LK) : mgetD es (sK q) (zN 0) = zN (lget S q) := by
  rw [h.1, mget_stE, kOf_sK]

theorem mput_keys {q : LK} {v : FV} {c : Int} : ∀ {es : List FV} {ks : List LK}, es.map entKey = ks.map sK → (mput es (sK q) v c).map entKey = (if q ∈ ks then ks else ks ++ [q]).map sK
  | [], [], _ => rfl
  | [], _ :: _, h => by simp at h
  | _ :: _, [], h => by simp at h
  | e :: es, a :: ks, h => by
    simp only [List.map_cons, List.cons.injEq] at h
    obtain ⟨h1, h2⟩ := h
    have ih := mput_keys (q := q) (v := v) (c := c) h2
    unfold mput
    rw [h1, keq_sK2]
    by_cases e : q = a
    · subst e
      simp [entKey, h2]
    · simp only [e, decide_false, cond_false, List.map_cons, ih, h1, List.mem_cons, false_or]
      by_cases hm : q ∈ ks <;> simp [hm]

theorem Acc.put {es : List FV} {S : LS} (hS : Asc S) (h : Acc es S) (q : LK) (z : Int) (c : Int) : Acc (mput es (sK q) (zN (lget S q + z)) c) (ladd S q z) := by
  obtain ⟨h1, ks, h2, h3⟩ := h
  refine ⟨fun k => ?_, _, mput_keys h2, ?_⟩
  · rw [mgetD_mput, h1, mget_stE, mget_stE, keq_sK]
    cases hk : kOf k with
    | none => simp
    | some p =>
      simp only [Option.some.injEq, lget_add q z p hS]
      by_cases e : p = q
      · subst e; simp
      · simp [e, Ne.symm e]
  · have nd := asc_nodup hS
    have nd2 := asc_nodup (asc_add q z hS)
    refine (List.perm_ext_iff_of_nodup ?_ nd2).2 fun p => ?_
    · have ndk : ks.Nodup := h3.nodup_iff.2 nd
      split
      · exact ndk
      · rename_i hq
        rw [List.nodup_append]
        exact ⟨ndk, by simp, fun a ha b hb e => by simp at hb; subst hb; subst e; exact hq ha⟩
    · rw [mem_add, ← h3.mem_iff]
      split
      · rename_i hq
        constructor
        · exact .inr
        · rintro (rfl | h)
          · exact hq
          · exact h
      · rw [List.mem_append, List.mem_singleton]
        constructor
        · rintro (h | h) <;> simp [h]
        · rintro (h | h) <;> simp [h]

/-! ### what is read of a transaction: a map whose entries stand in the order in which they came -/
abbrev TS := List (LK × Int × Int)
def ent (t : LK × Int × Int) : FV := .agg [sK t.1, zN t.2.1, .int .i64 t.2.2]
def tget : TS → LK → Int
  | [], _ => 0
  | (a, x, _) :: r, k => if a = k then x else tget r k
/-- without the stamps -/
def bare (E : TS) : LS := E.map fun t => (t.1, t.2.1)

theorem mget_ent (q : LK) : ∀ E : TS, mgetD (E.map ent) (sK q) (zN 0) = zN (lget (bare E) q)
  | [] => rfl
  | (a, x, b) :: r => by
    have ih := mget_ent q r
    simp only [List.map_cons, ent, mgetD, entKey, entVal, bare, lget] at ih ⊢
    rw [keq_sK2, ih]
    by_cases e : q = a
    · subst e; simp
    · simp [e, Ne.symm e]

theorem mput_ent (q : LK) (z c : Int) : ∀ E : TS, ∃ E', mput (E.map ent) (sK q) (zN (lget (bare E) q + z)) c = E'.map ent ∧ bare E' = dadd (bare E) q z
  | [] => ⟨[(q, z, c)], by simp [mput, ent, bare, lget], by simp [bare, dadd]⟩
  | (a, x, b) :: r => by
    obtain ⟨E', h1, h2⟩ := mput_ent q z c r
    simp only [List.map_cons, mput, ent, entKey, entBorn, bare, lget, dadd]
    rw [keq_sK2]
    by_cases e : q = a
    · subst e
      exact ⟨(q, x + z, b) :: r, by simp [ent], by simp [bare]⟩
    · refine ⟨(a, x, b) :: E', ?_, ?_⟩
      · simp only [e, Ne.symm e, decide_false, cond_false, if_false, List.map_cons, ent]
        rw [← h1]; rfl
      · simp only [bare] at h2
        simp [e, Ne.symm e, bare, h2]

theorem keys_ent (E : TS) : (E.map ent).map entKey = ((bare E).map (·.1)).map sK := by
  simp [bare, List.map_map, Function.comp_def, ent, entKey]

end Rf
end
