/- Digits of a number to a base, the lowest first: plain arithmetic. -/
import Derived.Calls
set_option linter.unusedVariables false
set_option linter.unusedSimpArgs false
namespace Rf

/-- what digits are worth -/
def vl (b : Nat) : List Nat → Nat
  | [] => 0
  | d :: l => d + b * vl b l

/-- the digits of a number, no nought highest -/
def dg (b : Nat) (n : Nat) : List Nat :=
  if h : n = 0 ∨ b < 2 then [] else n % b :: dg b (n / b)
termination_by n
decreasing_by
  have h1 : 0 < n := by omega
  exact Nat.div_lt_self h1 (by omega)

/-- without the noughts on top -/
def tz : List Nat → List Nat
  | [] => []
  | d :: l => if d = 0 ∧ tz l = [] then [] else d :: tz l

def Dg (b : Nat) (l : List Nat) : Prop := ∀ d, d ∈ l → d < b

theorem dg_zero (b : Nat) : dg b 0 = [] := by rw [dg]; simp
theorem dg_pos {b n : Nat} (hb : 2 ≤ b) (hn : n ≠ 0) : dg b n = n % b :: dg b (n / b) := by
  rw [dg, dif_neg (by omega)]

theorem vl_dg {b : Nat} (hb : 2 ≤ b) (n : Nat) : vl b (dg b n) = n := by
  induction n using Nat.strongRecOn with
  | _ n ih =>
    by_cases hn : n = 0
    · subst hn; rw [dg_zero]; rfl
    · rw [dg_pos hb hn, vl, ih (n / b) (Nat.div_lt_self (by omega) (by omega))]
      exact Nat.mod_add_div n b

theorem dg_Dg {b : Nat} (hb : 2 ≤ b) (n : Nat) : Dg b (dg b n) := by
  induction n using Nat.strongRecOn with
  | _ n ih =>
    by_cases hn : n = 0
    · subst hn; rw [dg_zero]; intro d h; cases h
    · rw [dg_pos hb hn]
      intro d h
      rcases List.mem_cons.1 h with rfl | h
      · exact Nat.mod_lt _ (by omega)
      · exact ih (n / b) (Nat.div_lt_self (by omega) (by omega)) d h

theorem dg_nil {b : Nat} (hb : 2 ≤ b) {n : Nat} : dg b n = [] ↔ n = 0 := by
  constructor
  · intro h
    by_cases hn : n = 0
    · exact hn
    · rw [dg_pos hb hn] at h; cases h
  · rintro rfl; exact dg_zero b

theorem Dg.tail {b d : Nat} {l : List Nat} (h : Dg b (d :: l)) : d < b ∧ Dg b l := ⟨h d (by simp), fun x hx => h x (by simp [hx])⟩
theorem Dg.cons {b d : Nat} {l : List Nat} (hd : d < b) (h : Dg b l) : Dg b (d :: l) := fun x hx => by
  rcases List.mem_cons.1 hx with rfl | hx
  · exact hd
  · exact h x hx
theorem Dg.app {b : Nat} {l m : List Nat} (h : Dg b l) (h' : Dg b m) : Dg b (l ++ m) := fun x hx => by
  rcases List.mem_append.1 hx with hx | hx
  · exact h x hx
  · exact h' x hx

/-- digits without noughts on top are the digits of what they are worth -/
theorem dg_vl {b : Nat} (hb : 2 ≤ b) : ∀ {l : List Nat}, Dg b l → dg b (vl b l) = tz l
  | [], _ => dg_zero b
  | d :: l, h => by
    obtain ⟨hd, hl⟩ := h.tail
    have ih := dg_vl hb hl
    simp only [vl, tz]
    by_cases h0 : d + b * vl b l = 0
    · have h1 : d = 0 := by omega
      have h2 : vl b l = 0 := by
        have : b * vl b l = 0 := by omega
        rcases Nat.mul_eq_zero.1 this with h | h
        · omega
        · exact h
      rw [h0, dg_zero, if_pos ⟨h1, by rw [← ih, h2, dg_zero]⟩]
    · rw [dg_pos hb h0, Nat.add_mul_mod_self_left, Nat.mod_eq_of_lt hd, Nat.add_mul_div_left _ _ (by omega), Nat.div_eq_of_lt hd, Nat.zero_add, ih, if_neg]
      rintro ⟨h1, h2⟩
      rw [← ih] at h2
      have := (dg_nil hb).1 h2
      rw [h1, this] at h0
      exact h0 (by simp)

theorem vl_app (b : Nat) : ∀ (l m : List Nat), vl b (l ++ m) = vl b l + b ^ l.length * vl b m
  | [], m => by simp [vl]
  | d :: l, m => by
    simp only [List.cons_append, vl, vl_app b l m, List.length_cons, Nat.pow_succ]
    rw [Nat.mul_add, Nat.mul_comm (b ^ l.length) b, Nat.mul_assoc]; omega

theorem vl_lt {b : Nat} (hb : 1 ≤ b) : ∀ {l : List Nat}, Dg b l → vl b l < b ^ l.length
  | [], _ => by simp [vl]
  | d :: l, h => by
    obtain ⟨hd, hl⟩ := h.tail
    have ih := vl_lt hb hl
    simp only [vl, List.length_cons, Nat.pow_succ]
    have : b * vl b l + b ≤ b * b ^ l.length := by
      rw [← Nat.mul_succ]; exact Nat.mul_le_mul_left b ih
    rw [Nat.mul_comm (b ^ l.length) b]
    omega

theorem tz_dg {b : Nat} (hb : 2 ≤ b) (n : Nat) : tz (dg b n) = dg b n := by
  rw [← dg_vl hb (dg_Dg hb n), vl_dg hb]

theorem tz_snoc_zero : ∀ (l : List Nat), tz (l ++ [0]) = tz l
  | [] => rfl
  | d :: l => by simp only [List.cons_append, tz, tz_snoc_zero l]

theorem tz_snoc {d : Nat} (hd : d ≠ 0) : ∀ (l : List Nat), tz (l ++ [d]) = l ++ [d]
  | [] => by simp [tz, hd]
  | x :: l => by
    simp only [List.cons_append, tz, tz_snoc hd l]
    rw [if_neg (by simp)]

theorem tz_len : ∀ (l : List Nat), (tz l).length ≤ l.length
  | [] => Nat.le_refl _
  | d :: l => by
    simp only [tz]
    have := tz_len l
    split
    · simp
    · simp; exact this

/-- the top digit of a number is none of nought -/
theorem dg_last {b : Nat} (hb : 2 ≤ b) {n : Nat} {l : List Nat} {d : Nat} (h : dg b n = l ++ [d]) : d ≠ 0 := by
  intro h0
  have h1 := tz_dg hb n
  rw [h, h0, tz_snoc_zero] at h1
  have := tz_len l
  have := congrArg List.length h1
  simp at this
  omega

/-- how many digits -/
theorem dg_len_le {b : Nat} (hb : 2 ≤ b) {n k : Nat} (h : n < b ^ k) : (dg b n).length ≤ k := by
  induction k generalizing n with
  | zero => have : n = 0 := by simpa using h
            subst this; rw [dg_zero]; exact Nat.zero_le _
  | succ k ih =>
    by_cases hn : n = 0
    · subst hn; rw [dg_zero]; exact Nat.zero_le _
    · rw [dg_pos hb hn, List.length_cons]
      have : n / b < b ^ k := by
        rw [Nat.div_lt_iff_lt_mul (by omega)]
        rw [Nat.pow_succ] at h; exact h
      have := ih this
      omega

theorem dg_lt_pow {b : Nat} (hb : 2 ≤ b) (n : Nat) : n < b ^ (dg b n).length := by
  have := vl_lt (b := b) (by omega) (dg_Dg hb n)
  rwa [vl_dg hb] at this

theorem pow_le_dg {b : Nat} (hb : 2 ≤ b) {n : Nat} (hn : n ≠ 0) : b ^ ((dg b n).length - 1) ≤ n := by
  induction n using Nat.strongRecOn with
  | _ n ih =>
    rw [dg_pos hb hn, List.length_cons, Nat.add_sub_cancel]
    by_cases h0 : n / b = 0
    · rw [h0, dg_zero]; simp; omega
    · have h1 := ih (n / b) (Nat.div_lt_self (by omega) (by omega)) h0
      have h2 : (dg b (n / b)).length ≠ 0 := fun h => h0 ((dg_nil hb).1 (List.length_eq_zero_iff.1 h))
      have : b ^ (dg b (n / b)).length = b ^ ((dg b (n / b)).length - 1) * b := by
        rw [← Nat.pow_succ]; congr 1; omega
      rw [this]
      exact Nat.le_trans (Nat.mul_le_mul_right b h1) (Nat.div_mul_le_self n b)

/-- fewer digits: less -/
theorem lt_of_len {b : Nat} (hb : 2 ≤ b) {m n : Nat} (h : (dg b m).length < (dg b n).length) : m < n := by
  have hn : n ≠ 0 := fun h0 => by subst h0; rw [dg_zero] at h; cases h
  have h1 := dg_lt_pow hb m
  have h2 := pow_le_dg hb hn
  have h3 : b ^ (dg b m).length ≤ b ^ ((dg b n).length - 1) := Nat.pow_le_pow_right (by omega) (by omega)
  omega

/-- a digit more at the top -/
theorem vl_snoc (b : Nat) (l : List Nat) (d : Nat) : vl b (l ++ [d]) = vl b l + b ^ l.length * d := by
  rw [vl_app]; simp [vl]

/-- as many digits: the highest that parts them decides -/
theorem vl_cmp {b : Nat} (hb : 1 ≤ b) {l m : List Nat} {x y : Nat} (h : Dg b l) (h' : Dg b m) (hlen : l.length = m.length) (hxy : x < y) (r : List Nat) : vl b (l ++ x :: r) < vl b (m ++ y :: r) := by
  rw [vl_app, vl_app]
  simp only [vl]
  have h1 := vl_lt hb h
  rw [hlen] at h1 ⊢
  have h2 : b ^ m.length * x + b ^ m.length ≤ b ^ m.length * y := by
    rw [← Nat.mul_succ]; exact Nat.mul_le_mul_left _ hxy
  rw [Nat.mul_add, Nat.mul_add]
  omega

/-! ### adding, taking away -/
def addL (B : Nat) : List Nat → List Nat → Nat → List Nat
  | [], _, c => [c]
  | x :: a, b, c => ((c + x + b.headD 0) % B) :: addL B a b.tail ((c + x + b.headD 0) / B)

theorem vl_head (B : Nat) (b : List Nat) : vl B b = b.headD 0 + B * vl B b.tail := by
  cases b with
  | nil => simp [vl]
  | cons x b => rfl

theorem Dg.headD {B : Nat} (hB : 0 < B) {b : List Nat} (h : Dg B b) : b.headD 0 < B := by
  cases b with
  | nil => simpa using hB
  | cons x b => exact h x (by simp)
theorem Dg.tl {B : Nat} {b : List Nat} (h : Dg B b) : Dg B b.tail := fun x hx => h x (List.mem_of_mem_tail hx)

theorem vl_addL {B : Nat} : ∀ (a b : List Nat) (c : Nat), b.length ≤ a.length → vl B (addL B a b c) = vl B a + vl B b + c
  | [], b, c, h => by
    have : b = [] := List.eq_nil_of_length_eq_zero (by simpa using h)
    subst this
    simp [addL, vl]
  | x :: a, b, c, h => by
    have ih := vl_addL (B := B) a b.tail ((c + x + b.headD 0) / B) (by rw [List.length_tail]; simp at h; omega)
    simp only [addL, vl, ih]
    have h1 := vl_head B b
    have h2 := Nat.mod_add_div (c + x + b.headD 0) B
    rw [Nat.mul_add, Nat.mul_add]
    omega

theorem addL_Dg {B : Nat} (hB : 2 ≤ B) : ∀ (a b : List Nat) (c : Nat), Dg B a → Dg B b → c ≤ 1 → Dg B (addL B a b c)
  | [], _, c, _, _, hc => by
    intro d hd
    simp only [addL, List.mem_singleton] at hd
    omega
  | x :: a, b, c, ha, hb, hc => by
    obtain ⟨hx, ha'⟩ := ha.tail
    have hy := hb.headD (by omega)
    refine Dg.cons (Nat.mod_lt _ (by omega)) (addL_Dg hB a b.tail _ ha' hb.tl ?_)
    have : c + x + b.headD 0 < 2 * B := by omega
    have := Nat.div_lt_of_lt_mul (m := c + x + b.headD 0) (n := B) (k := 2) (by rw [Nat.mul_comm]; exact this)
    omega

theorem addL_len {B : Nat} : ∀ (a b : List Nat) (c : Nat), (addL B a b c).length = a.length + 1
  | [], _, _ => rfl
  | _ :: a, b, _ => by simp only [addL, List.length_cons, addL_len a b.tail]

/-- less, digit by digit; what is borrowed in the end -/
def subL (B : Nat) : List Nat → List Nat → Nat → List Nat × Nat
  | [], _, c => ([], c)
  | x :: a, b, c =>
    let r := subL B a b.tail (if x < b.headD 0 + c then 1 else 0)
    ((B + x - b.headD 0 - c) % B :: r.1, r.2)

theorem vl_subL {B : Nat} (hB : 2 ≤ B) : ∀ (a b : List Nat) (c : Nat), Dg B a → Dg B b → c ≤ 1 → b.length ≤ a.length →
    vl B (subL B a b c).1 + vl B b + c = vl B a + B ^ a.length * (subL B a b c).2 ∧ Dg B (subL B a b c).1 ∧ (subL B a b c).1.length = a.length ∧ (subL B a b c).2 ≤ 1
  | [], b, c, _, _, hc, h => by
    have : b = [] := List.eq_nil_of_length_eq_zero (by simpa using h)
    subst this
    refine ⟨by simp [subL, vl], fun d hd => by simp [subL] at hd, rfl, by simpa [subL] using hc⟩
  | x :: a, b, c, ha, hb, hc, h => by
    obtain ⟨hx, ha'⟩ := ha.tail
    have hy := hb.headD (by omega)
    obtain ⟨h1, h2, h3, h4⟩ := vl_subL hB a b.tail (if x < b.headD 0 + c then 1 else 0) ha' hb.tl (by split <;> omega) (by rw [List.length_tail]; simp at h; omega)
    have hh := vl_head B b
    simp only [subL]
    refine ⟨?_, Dg.cons (Nat.mod_lt _ (by omega)) h2, by simp only [List.length_cons, h3], h4⟩
    simp only [vl, List.length_cons, Nat.pow_succ]
    generalize (subL B a b.tail (if x < b.headD 0 + c then 1 else 0)).2 = o at h1 h4 ⊢
    generalize vl B (subL B a b.tail (if x < b.headD 0 + c then 1 else 0)).1 = V at h1 ⊢
    have e : B * V + B * vl B b.tail + B * (if x < b.headD 0 + c then 1 else 0) = B * vl B a + B ^ a.length * B * o := by
      rw [← Nat.mul_add, ← Nat.mul_add, h1, Nat.mul_add, Nat.mul_comm (B ^ a.length) B, Nat.mul_assoc]
    by_cases hlt : x < b.headD 0 + c
    · rw [if_pos hlt] at e
      by_cases hz : B + x - b.headD 0 - c < B
      · rw [Nat.mod_eq_of_lt hz]; omega
      · omega
    · rw [if_neg hlt] at e
      have : B + x - b.headD 0 - c = (x - b.headD 0 - c) + B := by omega
      rw [this, Nat.add_mod_right, Nat.mod_eq_of_lt (by omega)]
      omega

/-! ### by one digit -/
def mulL (B : Nat) : List Nat → Nat → Nat → List Nat
  | [], _, c => [c]
  | x :: a, k, c => ((c + x * k) % B) :: mulL B a k ((c + x * k) / B)

theorem vl_mulL {B : Nat} : ∀ (a : List Nat) (k c : Nat), vl B (mulL B a k c) = vl B a * k + c
  | [], k, c => by simp [mulL, vl]
  | x :: a, k, c => by
    simp only [mulL, vl, vl_mulL a k]
    have h2 := Nat.mod_add_div (c + x * k) B
    rw [Nat.mul_add, Nat.add_mul, Nat.mul_assoc]
    omega

theorem carry_lt {B c x k : Nat} (hx : x < B) (hk : k < B) (hc : c < B) : c + x * k < B * B := by
  have h1 : x * k ≤ (B - 1) * (B - 1) := Nat.mul_le_mul (by omega) (by omega)
  have h2 : (B - 1) * (B - 1) + B ≤ B * B := by
    obtain ⟨m, rfl⟩ : ∃ m, B = m + 1 := ⟨B - 1, by omega⟩
    simp only [Nat.add_sub_cancel]
    rw [Nat.mul_succ, Nat.succ_mul]; omega
  omega

theorem mulL_Dg {B : Nat} : ∀ (a : List Nat) (k c : Nat), Dg B a → k < B → c < B → Dg B (mulL B a k c)
  | [], k, c, _, _, hc => fun d hd => by simp only [mulL, List.mem_singleton] at hd; omega
  | x :: a, k, c, ha, hk, hc => by
    obtain ⟨hx, ha'⟩ := ha.tail
    exact Dg.cons (Nat.mod_lt _ (by omega)) (mulL_Dg a k _ ha' hk (Nat.div_lt_of_lt_mul (carry_lt hx hk hc)))

theorem mulL_len {B : Nat} : ∀ (a : List Nat) (k c : Nat), (mulL B a k c).length = a.length + 1
  | [], _, _ => rfl
  | _ :: a, k, _ => by simp only [mulL, List.length_cons, mulL_len a k]

/-- from the top down: what is left, and the digits -/
def divL (B k : Nat) : List Nat → Nat × List Nat
  | [] => (0, [])
  | d :: l => let r := divL B k l; ((r.1 * B + d) % k, (r.1 * B + d) / k :: r.2)

theorem divL_ok {B k : Nat} (hk : 0 < k) : ∀ (l : List Nat), Dg B l → vl B l = k * vl B (divL B k l).2 + (divL B k l).1 ∧ (divL B k l).1 < k ∧ Dg B (divL B k l).2 ∧ (divL B k l).2.length = l.length
  | [], _ => ⟨by simp [divL, vl], hk, fun d h => by simp [divL] at h, rfl⟩
  | d :: l, h => by
    obtain ⟨hd, hl⟩ := h.tail
    obtain ⟨h1, h2, h3, h4⟩ := divL_ok hk l hl
    simp only [divL]
    refine ⟨?_, Nat.mod_lt _ hk, Dg.cons ?_ h3, by simp [h4]⟩
    · simp only [vl]
      generalize (divL B k l).1 = r at *
      generalize vl B (divL B k l).2 = q at *
      have e := Nat.div_add_mod (r * B + d) k
      rw [Nat.mul_add, h1, Nat.mul_add, Nat.mul_left_comm k B q, Nat.mul_comm r B] at *
      omega
    · rw [Nat.div_lt_iff_lt_mul hk]
      have : ((divL B k l).1 + 1) * B ≤ k * B := Nat.mul_le_mul_right B h2
      rw [Nat.succ_mul] at this
      rw [Nat.mul_comm B k]
      omega

/-! ### two numbers multiplied -/
/-- a row: so many times b is laid on what is there, from the lowest on; what is carried stands behind it -/
def maRow (B : Nat) : List Nat → List Nat → Nat → Nat → List Nat
  | acc, [], _, c => acc.set 0 c
  | [], _ :: _, _, _ => []
  | h :: t, y :: b, x, c => ((c + (h + x * y)) % B) :: maRow B t b x ((c + (h + x * y)) / B)

theorem maRow_ok {B : Nat} (hB : 2 ≤ B) : ∀ (acc b rest : List Nat) (x c : Nat), acc.length = b.length → Dg B acc → Dg B b → x < B → c < B →
    ∃ w, maRow B (acc ++ 0 :: rest) b x c = w ++ rest ∧ w.length = b.length + 1 ∧ Dg B w ∧ vl B w = vl B acc + x * vl B b + c
  | [], [], rest, x, c, _, _, _, _, hc => ⟨[c], by simp [maRow], rfl, fun d hd => by simp at hd; omega, by simp [vl]⟩
  | [], _ :: _, _, _, _, h, _, _, _, _ => by simp at h
  | _ :: _, [], _, _, _, h, _, _, _, _ => by simp at h
  | a :: acc, y :: b, rest, x, c, h, ha, hb, hx, hc => by
    obtain ⟨ha1, ha2⟩ := ha.tail
    obtain ⟨hb1, hb2⟩ := hb.tail
    have hlt : c + (a + x * y) < B * B := by
      have h1 : x * y ≤ (B - 1) * (B - 1) := Nat.mul_le_mul (by omega) (by omega)
      have h2 : (B - 1) * (B - 1) + (B - 1) + B ≤ B * B := by
        obtain ⟨m, rfl⟩ : ∃ m, B = m + 1 := ⟨B - 1, by omega⟩
        simp only [Nat.add_sub_cancel]
        rw [Nat.mul_succ, Nat.succ_mul]; omega
      omega
    obtain ⟨w, h1, h2, h3, h4⟩ := maRow_ok hB acc b rest x ((c + (a + x * y)) / B) (by simpa using h) ha2 hb2 hx (Nat.div_lt_of_lt_mul hlt)
    refine ⟨(c + (a + x * y)) % B :: w, by simp [maRow, h1], by simp [h2], Dg.cons (Nat.mod_lt _ (by omega)) h3, ?_⟩
    simp only [vl, h4]
    have e := Nat.mod_add_div (c + (a + x * y)) B
    rw [Nat.mul_add, Nat.mul_add, Nat.mul_add, Nat.mul_left_comm B x]
    omega

/-- all rows -/
def mulO (B : Nat) : List Nat → List Nat → List Nat → List Nat
  | [], acc, _ => acc
  | x :: a, acc, b => match maRow B acc b x 0 with
    | [] => []
    | d :: t => d :: mulO B a t b

theorem mulO_ok {B : Nat} (hB : 2 ≤ B) : ∀ (a w b : List Nat), w.length = b.length → Dg B w → Dg B b → Dg B a →
    vl B (mulO B a (w ++ List.replicate a.length 0) b) = vl B w + vl B a * vl B b ∧ Dg B (mulO B a (w ++ List.replicate a.length 0) b) ∧ (mulO B a (w ++ List.replicate a.length 0) b).length = a.length + b.length
  | [], w, b, h, hw, hb, _ => by simp [mulO, vl, h, hw]
  | x :: a, w, b, h, hw, hb, ha => by
    obtain ⟨hx, ha'⟩ := ha.tail
    obtain ⟨w', h1, h2, h3, h4⟩ := maRow_ok hB w b (List.replicate a.length 0) x 0 h hw hb hx (by omega)
    simp only [List.length_cons, List.replicate_succ, mulO, h1]
    cases w' with
    | nil => simp at h2
    | cons d t =>
      simp only [List.cons_append]
      obtain ⟨hd, ht⟩ := h3.tail
      obtain ⟨g1, g2, g3⟩ := mulO_ok hB a t b (by simpa using h2) ht hb ha'
      refine ⟨?_, Dg.cons hd g2, by simp [g3]; omega⟩
      simp only [vl] at h4 ⊢
      rw [g1, Nat.mul_add, Nat.add_mul]
      have : B * (vl B a * vl B b) = B * vl B a * vl B b := (Nat.mul_assoc _ _ _).symm
      omega

/-! ### long division -/
/-- so many times taken away, with what is carried and what is borrowed -/
def msL (B : Nat) : List Nat → List Nat → Nat → Nat → Nat → List Nat × Nat
  | [], _, _, _, br => ([], br)
  | [u], [], _, ca, br => ([(B + u - ca % B - br) % B], if u < ca % B + br then 1 else 0)
  | u :: us, [], g, ca, br => let r := msL B us [] g (ca / B) (if u < ca % B + br then 1 else 0); ((B + u - ca % B - br) % B :: r.1, r.2)
  | u :: us, v :: vs, g, ca, br =>
    let r := msL B us vs g ((ca + g * v) / B) (if u < (ca + g * v) % B + br then 1 else 0)
    ((B + u - (ca + g * v) % B - br) % B :: r.1, r.2)

theorem sub_digit {B u y br : Nat} (hu : u < B) (hy : y < B) (hb : br ≤ 1) : (B + u - y - br) % B + y + br = u + B * (if u < y + br then 1 else 0) ∧ (B + u - y - br) % B < B := by
  refine ⟨?_, Nat.mod_lt _ (by omega)⟩
  by_cases h : u < y + br
  · rw [if_pos h]
    by_cases hz : B + u - y - br < B
    · rw [Nat.mod_eq_of_lt hz]; omega
    · omega
  · rw [if_neg h]
    have : B + u - y - br = (u - y - br) + B := by omega
    rw [this, Nat.add_mod_right, Nat.mod_eq_of_lt (by omega)]
    omega

/-- one digit more above: n + 1 of them less g times n -/
theorem msL_ok {B : Nat} (hB : 2 ≤ B) : ∀ (us vs : List Nat) (g ca br : Nat), us.length = vs.length + 1 → Dg B us → Dg B vs → g < B → ca < B → br ≤ 1 →
    vl B (msL B us vs g ca br).1 + g * vl B vs + ca + br = vl B us + B ^ us.length * (msL B us vs g ca br).2 ∧ Dg B (msL B us vs g ca br).1 ∧ (msL B us vs g ca br).1.length = us.length ∧ (msL B us vs g ca br).2 ≤ 1
  | [], _, _, _, _, h, _, _, _, _, _ => by simp at h
  | [u], [], g, ca, br, _, hu, _, _, hc, hb => by
    obtain ⟨e1, e2⟩ := sub_digit (hu u (by simp)) hc hb
    simp only [msL, Nat.mod_eq_of_lt hc]
    refine ⟨?_, fun d hd => by simp only [List.mem_singleton] at hd; omega, rfl, by split <;> omega⟩
    simp only [vl, List.length_singleton, Nat.pow_one, Nat.mul_zero, Nat.add_zero]
    omega
  | _ :: _ :: _, [], _, _, _, h, _, _, _, _, _ => by simp at h
  | u :: us, v :: vs, g, ca, br, h, hu, hv, hg, hc, hb => by
    obtain ⟨hu1, hu2⟩ := hu.tail
    obtain ⟨hv1, hv2⟩ := hv.tail
    have hm : (ca + g * v) % B < B := Nat.mod_lt _ (by omega)
    obtain ⟨e1, e2⟩ := sub_digit hu1 hm hb
    obtain ⟨h1, h2, h3, h4⟩ := msL_ok hB us vs g ((ca + g * v) / B) (if u < (ca + g * v) % B + br then 1 else 0) (by simpa using h) hu2 hv2 hg (Nat.div_lt_of_lt_mul (carry_lt hg hv1 hc)) (by split <;> omega)
    simp only [msL]
    refine ⟨?_, Dg.cons e2 h2, by simp only [List.length_cons, h3], h4⟩
    simp only [vl, List.length_cons, Nat.pow_succ]
    generalize (msL B us vs g ((ca + g * v) / B) (if u < (ca + g * v) % B + br then 1 else 0)).2 = o at h1 h4 ⊢
    generalize vl B (msL B us vs g ((ca + g * v) / B) (if u < (ca + g * v) % B + br then 1 else 0)).1 = V at h1 ⊢
    have e3 := Nat.mod_add_div (ca + g * v) B
    have e4 : B * V + B * (g * vl B vs) + B * ((ca + g * v) / B) + B * (if u < (ca + g * v) % B + br then 1 else 0) = B * vl B us + B ^ us.length * B * o := by
      rw [← Nat.mul_add, ← Nat.mul_add, ← Nat.mul_add, h1, Nat.mul_add, Nat.mul_comm (B ^ us.length) B, Nat.mul_assoc]
    have e5 : g * (v + B * vl B vs) = g * v + B * (g * vl B vs) := by rw [Nat.mul_add, Nat.mul_left_comm]
    rw [e5]
    omega

/-- laid on again: the lowest n digits, what is carried onto the top one -/
def abL (B : Nat) : List Nat → List Nat → Nat → List Nat
  | [], _, _ => []
  | u :: us, [], c => (u + c) % B :: us
  | u :: us, v :: vs, c => ((u + v + c) % B) :: abL B us vs ((u + v + c) / B)

theorem abL_ok {B : Nat} (hB : 2 ≤ B) : ∀ (us vs : List Nat) (c : Nat), us.length = vs.length + 1 → Dg B us → Dg B vs → c ≤ 1 →
    (vl B us + vl B vs + c) % B ^ us.length = vl B (abL B us vs c) ∧ Dg B (abL B us vs c) ∧ (abL B us vs c).length = us.length
  | [], _, _, h, _, _, _ => by simp at h
  | [u], [], c, _, hu, _, hc => by
    simp only [abL]
    exact ⟨by simp [vl], fun d hd => by simp only [List.mem_singleton] at hd; rw [hd]; exact Nat.mod_lt _ (by omega), rfl⟩
  | _ :: _ :: _, [], _, h, _, _, _ => by simp at h
  | u :: us, v :: vs, c, h, hu, hv, hc => by
    obtain ⟨hu1, hu2⟩ := hu.tail
    obtain ⟨hv1, hv2⟩ := hv.tail
    have hdc : (u + v + c) / B ≤ 1 := by
      have := Nat.div_lt_of_lt_mul (m := u + v + c) (n := B) (k := 2) (by omega)
      omega
    obtain ⟨h1, h2, h3⟩ := abL_ok hB us vs ((u + v + c) / B) (by simpa using h) hu2 hv2 hdc
    simp only [abL]
    refine ⟨?_, Dg.cons (Nat.mod_lt _ (by omega)) h2, by simp only [List.length_cons, h3]⟩
    simp only [vl, List.length_cons, ← h1]
    have e3 := Nat.mod_add_div (u + v + c) B
    have : u + B * vl B us + (v + B * vl B vs) + c = (u + v + c) % B + B * (vl B us + vl B vs + (u + v + c) / B) := by
      rw [Nat.mul_add, Nat.mul_add]; omega
    rw [this, Nat.pow_succ, Nat.mul_comm (B ^ us.length) B]
    generalize vl B us + vl B vs + (u + v + c) / B = X
    have hm : (u + v + c) % B < B := Nat.mod_lt _ (by omega)
    generalize (u + v + c) % B = m at hm
    -- (m + B * X) % (B * P) = m + B * (X % P)
    have hX := Nat.mod_add_div X (B ^ us.length)
    have hP : 0 < B ^ us.length := Nat.pow_pos (by omega)
    have hl : m + B * (X % B ^ us.length) < B * B ^ us.length := by
      have : B * (X % B ^ us.length) + B ≤ B * B ^ us.length := by rw [← Nat.mul_succ]; exact Nat.mul_le_mul_left B (Nat.mod_lt _ hP)
      omega
    have e : m + B * X = m + B * (X % B ^ us.length) + B * B ^ us.length * (X / B ^ us.length) := by
      conv => lhs; rw [← hX]
      rw [Nat.mul_add, Nat.mul_assoc]; omega
    rw [e, Nat.add_mul_mod_self_left, Nat.mod_eq_of_lt hl]

/-- a guess by the two highest digits of the one and the three highest of the other: never too small -/
theorem guess_ge {B P U V top v1 v2 u3 lowU lowV g q : Nat} (hP : 0 < P) (hU : U = (top * B + u3) * P + lowU) (hlU : lowU < P) (hV : V = (v1 * B + v2) * P + lowV) (hq : q * V ≤ U)
    (hg : top * B + u3 < g * (v1 * B + v2)) : q < g := by
  refine Nat.lt_of_not_le fun hle => ?_
  have h1 : g * ((v1 * B + v2) * P) ≤ U := by
    refine Nat.le_trans ?_ hq
    refine Nat.mul_le_mul hle ?_
    rw [hV]; omega
  have h2 : (top * B + u3 + 1) * P ≤ g * (v1 * B + v2) * P := Nat.mul_le_mul_right P hg
  rw [Nat.succ_mul, Nat.mul_assoc] at h2
  omega

theorem guess_top {B P U V top v1 v2 u3 lowU lowV q : Nat} (hB : 0 < B) (hP : 0 < P) (hu3 : u3 < B) (hU : U = (top * B + u3) * P + lowU) (hlU : lowU < P) (hV : V = (v1 * B + v2) * P + lowV) (hv1 : 0 < v1) (hq : q * V ≤ U) : q ≤ top / v1 := by
  rw [Nat.le_div_iff_mul_le hv1]
  refine Nat.le_of_not_lt fun hlt => ?_
  have h1 : q * v1 * (B * P) ≤ U := by
    refine Nat.le_trans ?_ hq
    rw [hV, Nat.mul_assoc]
    refine Nat.mul_le_mul_left q ?_
    rw [Nat.add_mul, Nat.mul_assoc]; omega
  have h2 : (top + 1) * (B * P) ≤ q * v1 * (B * P) := Nat.mul_le_mul_right _ hlt
  have h3 : (top * B + u3) * P + lowU < (top + 1) * (B * P) := by
    have e : (top + 1) * (B * P) = (top * B + (B - 1)) * P + P := by
      rw [Nat.add_mul, Nat.add_mul, Nat.sub_mul, Nat.one_mul, Nat.one_mul, Nat.mul_assoc]
      have : P ≤ B * P := Nat.le_mul_of_pos_left P hB
      omega
    have : (top * B + u3) * P ≤ (top * B + (B - 1)) * P := Nat.mul_le_mul_right P (by omega)
    omega
  omega

/-- one too many at most -/
theorem guess_le {B P U V top v1 v2 u3 lowU lowV g : Nat} (hU : U = (top * B + u3) * P + lowU) (hV : V = (v1 * B + v2) * P + lowV) (hlV : lowV < P) (hv1 : 0 < v1) (hgB : g < B)
    (hg : g * (v1 * B + v2) ≤ top * B + u3) : g * V < U + V := by
  have h1 : g * V ≤ g * ((v1 * B + v2) * P) + g * P := by
    rw [hV, Nat.mul_add]
    have := Nat.mul_le_mul_left g (Nat.le_of_lt hlV)
    omega
  have h2 : g * ((v1 * B + v2) * P) ≤ U := by
    rw [← Nat.mul_assoc, hU]
    have := Nat.mul_le_mul_right P hg
    omega
  have h3 : g * P < V ∨ P = 0 := by
    by_cases hP : P = 0
    · exact .inr hP
    · left
      have : g * P < B * P := Nat.mul_lt_mul_of_pos_right hgB (by omega)
      have h4 : B * P ≤ (v1 * B + v2) * P := Nat.mul_le_mul_right P (by
        have := Nat.le_mul_of_pos_left B hv1
        omega)
      omega
  rcases h3 with h3 | h3
  · omega
  · omega

/-! ### shifted -/
/-- by s bits up, one digit more -/
def shlL (B s : Nat) : List Nat → Nat → List Nat
  | [], c => [c]
  | x :: a, c => (c + x * 2 ^ s % B) :: shlL B s a (x * 2 ^ s / B)

theorem vl_shlL {B s : Nat} : ∀ (a : List Nat) (c : Nat), vl B (shlL B s a c) = vl B a * 2 ^ s + c
  | [], c => by simp [shlL, vl]
  | x :: a, c => by
    simp only [shlL, vl, vl_shlL a]
    have h2 := Nat.mod_add_div (x * 2 ^ s) B
    rw [Nat.mul_add, Nat.add_mul, Nat.mul_assoc]
    omega

/-- by s bits down: n digits out of n + 1 -/
def shrL (B s : Nat) : List Nat → List Nat
  | u0 :: u1 :: u => ((u1 * B + u0) / 2 ^ s) % B :: shrL B s (u1 :: u)
  | _ => []

theorem shrL_ok {K s : Nat} : ∀ (u : List Nat) (u0 : Nat), Dg (2 ^ (K + s)) (u0 :: u) →
    Dg (2 ^ (K + s)) (shrL (2 ^ (K + s)) s (u0 :: u)) ∧ (shrL (2 ^ (K + s)) s (u0 :: u)).length = u.length ∧
      vl (2 ^ (K + s)) (u0 :: u) / 2 ^ s % (2 ^ (K + s)) ^ u.length = vl (2 ^ (K + s)) (shrL (2 ^ (K + s)) s (u0 :: u))
  | [], _, _ => ⟨fun d h => by simp [shrL] at h, rfl, by simp [shrL, vl, Nat.mod_one]⟩
  | u1 :: u, u0, h => by
    obtain ⟨h0, h'⟩ := h.tail
    obtain ⟨g1, g2, g3⟩ := shrL_ok u u1 h'
    have hB : 0 < 2 ^ (K + s) := Nat.pow_pos (by omega)
    have hS : 0 < 2 ^ s := Nat.pow_pos (by omega)
    have hBs : 2 ^ (K + s) = 2 ^ s * 2 ^ K := by rw [Nat.pow_add, Nat.mul_comm]
    refine ⟨Dg.cons (Nat.mod_lt _ hB) g1, by simp only [shrL, List.length_cons, g2], ?_⟩
    simp only [shrL, vl]
    rw [← g3]
    simp only [vl, List.length_cons]
    generalize vl (2 ^ (K + s)) u = W
    -- U1 = u1 + B W
    have e1 : ∀ X, (u0 + 2 ^ (K + s) * X) / 2 ^ s = u0 / 2 ^ s + 2 ^ K * X := fun X => by
      rw [hBs, Nat.mul_assoc, Nat.add_mul_div_left _ _ hS]
    have e2 : (u1 * 2 ^ (K + s) + u0) / 2 ^ s = u0 / 2 ^ s + 2 ^ K * u1 := by rw [Nat.add_comm, Nat.mul_comm, e1]
    rw [e1, e2]
    have hlo : u0 / 2 ^ s < 2 ^ K := by
      rw [Nat.div_lt_iff_lt_mul hS, Nat.mul_comm, ← hBs]; exact h0
    have e3 : ∀ X, u0 / 2 ^ s + 2 ^ K * X = (u0 / 2 ^ s + 2 ^ K * (X % 2 ^ s)) + 2 ^ (K + s) * (X / 2 ^ s) := fun X => by
      have := Nat.mod_add_div X (2 ^ s)
      conv => lhs; rw [← this]
      rw [Nat.mul_add, Nat.pow_add, Nat.mul_assoc]; omega
    have hlt : ∀ X, u0 / 2 ^ s + 2 ^ K * (X % 2 ^ s) < 2 ^ (K + s) := fun X => by
      have h1 : 2 ^ K * (X % 2 ^ s) + 2 ^ K ≤ 2 ^ K * 2 ^ s := by rw [← Nat.mul_succ]; exact Nat.mul_le_mul_left _ (Nat.mod_lt _ hS)
      rw [← Nat.pow_add] at h1
      omega
    have e4 : (u1 + 2 ^ (K + s) * W) % 2 ^ s = u1 % 2 ^ s := by rw [hBs, Nat.mul_assoc, Nat.add_mul_mod_self_left]
    rw [e3 u1, Nat.add_mul_mod_self_left, Nat.mod_eq_of_lt (hlt u1), e3 (u1 + 2 ^ (K + s) * W), e4]
    generalize (u1 + 2 ^ (K + s) * W) / 2 ^ s = Y
    have hm := hlt u1
    generalize u0 / 2 ^ s + 2 ^ K * (u1 % 2 ^ s) = m at hm
    generalize 2 ^ (K + s) = B at *
    rw [Nat.pow_succ, Nat.mul_comm (B ^ u.length) B]
    have hX := Nat.mod_add_div Y (B ^ u.length)
    have hP : 0 < B ^ u.length := Nat.pow_pos hB
    have hl : m + B * (Y % B ^ u.length) < B * B ^ u.length := by
      have : B * (Y % B ^ u.length) + B ≤ B * B ^ u.length := by rw [← Nat.mul_succ]; exact Nat.mul_le_mul_left B (Nat.mod_lt _ hP)
      omega
    have e : m + B * Y = m + B * (Y % B ^ u.length) + B * B ^ u.length * (Y / B ^ u.length) := by
      conv => lhs; rw [← hX]
      rw [Nat.mul_add, Nat.mul_assoc]; omega
    rw [e, Nat.add_mul_mod_self_left, Nat.mod_eq_of_lt hl]

/-! ### decimal texts -/
/-- so many decimal digits of a number, the lowest first -/
def dK : Nat → Nat → List Nat
  | 0, _ => []
  | k + 1, d => d % 10 :: dK k (d / 10)

theorem dK_len : ∀ (k d : Nat), (dK k d).length = k
  | 0, _ => rfl
  | k + 1, d => by simp only [dK, List.length_cons, dK_len k]

theorem dg_dK {m : Nat} (hm : m ≠ 0) : ∀ (k d : Nat), d < 10 ^ k → dg 10 (d + 10 ^ k * m) = dK k d ++ dg 10 m
  | 0, d, h => by
    have : d = 0 := by simpa using h
    subst this
    simp [dK]
  | k + 1, d, h => by
    have hp : 0 < 10 ^ k * m := Nat.mul_pos (Nat.pow_pos (by omega)) (by omega)
    have e : 10 ^ (k + 1) * m = 10 * (10 ^ k * m) := by rw [Nat.pow_succ, Nat.mul_comm (10 ^ k) 10, Nat.mul_assoc]
    rw [e, dg_pos (by omega) (by omega), Nat.add_mul_mod_self_left, Nat.add_mul_div_left _ _ (by omega)]
    rw [dg_dK hm k (d / 10) (by rw [Nat.pow_succ] at h; omega)]
    rfl

theorem dK_dg : ∀ (k d : Nat), d < 10 ^ k → dK k d = dg 10 d ++ List.replicate (k - (dg 10 d).length) 0
  | 0, d, h => by
    have : d = 0 := by simpa using h
    subst this
    simp [dK, dg_zero]
  | k + 1, d, h => by
    have h' : d / 10 < 10 ^ k := by rw [Nat.pow_succ] at h; omega
    have ih := dK_dg k (d / 10) h'
    simp only [dK]
    by_cases h0 : d = 0
    · subst h0
      rw [ih]
      simp [dg_zero, List.replicate_succ]
    · rw [dg_pos (by omega) h0, ih, List.cons_append, List.length_cons]
      congr 3
      omega

/-- a digit's sign -/
def chD (d : Nat) : UInt8 := UInt8.ofNat (48 + d)
/-- a number's text -/
def dtext (n : Nat) : List UInt8 := if n = 0 then [48] else ((dg 10 n).reverse).map chD

def isD (c : UInt8) : Bool := decide (48 ≤ c.toNat) && decide (c.toNat ≤ 57)
/-- what a text of digits is worth -/
def vD (s : List UInt8) : Nat := s.foldl (fun n c => n * 10 + (c.toNat - 48)) 0
/-- a text that is a number's -/
def canon (s : List UInt8) : Prop := s ≠ [] ∧ (∀ c, c ∈ s → isD c = true) ∧ (s.head? = some 48 → s.length = 1)

theorem chD_nat {d : Nat} (h : d < 10) : (chD d).toNat = 48 + d := by
  unfold chD
  rw [UInt8.toNat_ofNat']
  omega
theorem chD_isD {d : Nat} (h : d < 10) : isD (chD d) = true := by
  unfold isD
  rw [chD_nat h]
  simp; omega

theorem vD_fold (s : List UInt8) : ∀ (n : Nat), s.foldl (fun n c => n * 10 + (c.toNat - 48)) n = n * 10 ^ s.length + vD s := by
  induction s with
  | nil => intro n; simp [vD]
  | cons c s ih =>
    intro n
    simp only [List.foldl_cons, List.length_cons, vD]
    rw [ih, ih (0 * 10 + (c.toNat - 48))]
    rw [Nat.pow_succ, Nat.add_mul, Nat.zero_mul, Nat.zero_add, Nat.mul_assoc, Nat.mul_comm 10 (10 ^ s.length)]
    omega

theorem vD_app (s t : List UInt8) : vD (s ++ t) = vD s * 10 ^ t.length + vD t := by
  unfold vD
  rw [List.foldl_append, vD_fold t]
  rfl

theorem vD_vl (s : List UInt8) : vD s = vl 10 ((s.map fun c => c.toNat - 48).reverse) := by
  induction s with
  | nil => rfl
  | cons c s ih =>
    rw [show c :: s = [c] ++ s from rfl, vD_app, ih, List.map_append, List.reverse_append, vl_app]
    simp [vD, vl, Nat.mul_comm]
    omega

theorem vD_lt {s : List UInt8} (h : ∀ c, c ∈ s → isD c = true) : vD s < 10 ^ s.length := by
  rw [vD_vl]
  have : Dg 10 ((s.map fun c => c.toNat - 48).reverse) := fun d hd => by
    rw [List.mem_reverse] at hd
    obtain ⟨c, hc, rfl⟩ := List.mem_map.1 hd
    have := h c hc
    simp only [isD, Bool.and_eq_true, decide_eq_true_eq] at this
    omega
  have := vl_lt (b := 10) (by omega) this
  simpa using this

theorem chD_back {c : UInt8} (h : isD c = true) : chD (c.toNat - 48) = c := by
  simp only [isD, Bool.and_eq_true, decide_eq_true_eq] at h
  unfold chD
  apply UInt8.toNat.inj
  rw [UInt8.toNat_ofNat']
  have := c.toNat_lt
  omega

/-- a number's text is read back -/
theorem dtext_vD {s : List UInt8} (h : canon s) : dtext (vD s) = s := by
  obtain ⟨h0, h1, h2⟩ := h
  obtain ⟨c, s, rfl⟩ : ∃ c s', s = c :: s' := by cases s with | nil => exact absurd rfl h0 | cons c s => exact ⟨_, _, rfl⟩
  have hc := h1 c (by simp)
  have hD : Dg 10 (((c :: s).map fun c => c.toNat - 48).reverse) := fun d hd => by
    rw [List.mem_reverse] at hd
    obtain ⟨x, hx, rfl⟩ := List.mem_map.1 hd
    have := h1 x hx
    simp only [isD, Bool.and_eq_true, decide_eq_true_eq] at this
    omega
  have back : ((c :: s).map fun c => c.toNat - 48).map chD = c :: s := by
    rw [List.map_map]
    conv => rhs; rw [← List.map_id (c :: s)]
    exact List.map_congr_left fun x hx => chD_back (h1 x hx)
  by_cases hz : c = 48
  · have hl := h2 (by rw [hz]; rfl)
    have : s = [] := List.eq_nil_of_length_eq_zero (by simpa using hl)
    subst this
    subst hz
    rfl
  · have hcn : c.toNat - 48 ≠ 0 := by
      simp only [isD, Bool.and_eq_true, decide_eq_true_eq] at hc
      intro h
      apply hz
      apply UInt8.toNat.inj
      have : (48 : UInt8).toNat = 48 := rfl
      omega
    have e : dg 10 (vD (c :: s)) = ((c :: s).map fun c => c.toNat - 48).reverse := by
      rw [vD_vl, dg_vl (by omega) hD, List.map_cons, List.reverse_cons, tz_snoc hcn]
    have hv : vD (c :: s) ≠ 0 := fun h => by
      rw [h, dg_zero] at e
      simp at e
    unfold dtext
    rw [if_neg hv, e, List.reverse_reverse, back]

theorem canon_dtext (n : Nat) : canon (dtext n) := by
  unfold dtext
  split
  · exact ⟨by simp, fun c h => by rw [List.mem_singleton] at h; rw [h]; rfl, fun _ => rfl⟩
  · rename_i hn
    have hne : dg 10 n ≠ [] := fun h => hn ((dg_nil (by omega)).1 h)
    refine ⟨by simpa using hne, fun c h => ?_, fun h => ?_⟩
    · obtain ⟨d, hd, rfl⟩ := List.mem_map.1 h
      rw [List.mem_reverse] at hd
      exact chD_isD (dg_Dg (by omega) n d hd)
    · obtain ⟨l, d, hl⟩ : ∃ l d, dg 10 n = l ++ [d] := ⟨_, _, (List.dropLast_concat_getLast hne).symm⟩
      have hd := dg_last (by omega) hl
      have hdb : d < 10 := dg_Dg (by omega) n d (by rw [hl]; simp)
      rw [hl] at h
      simp only [List.reverse_append, List.reverse_singleton, List.singleton_append, List.map_cons, List.head?_cons, Option.some.injEq] at h
      have := congrArg UInt8.toNat h
      rw [chD_nat hdb] at this
      have h48 : (48 : UInt8).toNat = 48 := rfl
      omega

theorem vD_dtext (n : Nat) : vD (dtext n) = n := by
  unfold dtext
  split
  · rename_i h; rw [h]; rfl
  · rw [vD_vl, List.map_map, ← List.map_reverse, List.reverse_reverse]
    have : (dg 10 n).map ((fun c : UInt8 => c.toNat - 48) ∘ chD) = dg 10 n := by
      conv => rhs; rw [← List.map_id (dg 10 n)]
      refine List.map_congr_left fun d hd => ?_
      show (chD d).toNat - 48 = d
      rw [chD_nat (dg_Dg (by omega) n d hd)]
      omega
    rw [this, vl_dg (by omega)]

theorem dtext_inj {m n : Nat} (h : dtext m = dtext n) : m = n := by rw [← vD_dtext m, h, vD_dtext]

end Rf
