/- The document's nat by values: its texts. -/
import Derived.Test.YtebaohjeodeaoaaGreatDoorRefN
import Derived.Test.YtebaohjeodeaoaaGreatDoorNum
set_option linter.unusedSimpArgs false
set_option linter.unusedVariables false
set_option maxHeartbeats 1000000
namespace Rf
open Go

abbrev d8 (c : UInt8) : FV := .int .u8 (c.toNat : Int)
abbrev L8 (l : List UInt8) : FV := .list 1 (l.map d8)
theorem app8 (l : List UInt8) (c : UInt8) : l.map d8 ++ [FV.int .u8 (c.toNat : Int)] = (l ++ [c]).map d8 := by simp
theorem d8_at {l : List UInt8} {i : Nat} (h : i < l.length) : at' (l.map d8) i 0 = some (.int .u8 ((l[i]).toNat : Int)) := by rw [at_map, List.getElem?_eq_getElem h]; rfl

theorem bytesO_map (l : List UInt8) : bytesO (l.map d8) = some (txt l) := by
  unfold bytesO
  rw [if_pos (by simp)]
  simp only [List.map_map, Function.comp_def, Int.toNat_natCast, UInt8.ofNat_toNat, List.map_id']
  rfl

theorem chD_wrap {d : Nat} (h : d < 10) : IntKind.wrap .u8 (IntKind.wrap .i64 (48 + (d : Int))) = ((chD d).toNat : Int) := by
  rw [chD_nat h, wrap64_id (by omega) (by omega)]
  unfold IntKind.wrap
  simp [IntKind.bits, IntKind.signed]
  omega

theorem tmod10 (x : Nat) : Int.tmod (x : Int) 10 = ((x % 10 : Nat) : Int) := rfl
theorem tdiv10 (x : Nat) : Int.tdiv (x : Int) 10 = ((x / 10 : Nat) : Int) := rfl

/-! ### Text -/
theorem t9_mid {n m0 i : Nat} {a : List FV} (hi : i + 1 < a.length) (ha : a.length ≤ 1099511627776) : ∀ (j k m x : Nat) (pre : List UInt8), k + j = 9 → j < m → x < 1000000000 → pre.length + j ≤ 100000000000000 →
    noonbellref01_Nat_Text.l9 n [m0] m [.list 1 a, L8 pre, .int .i64 (i : Int), .int .i64 (x : Int), .int .i64 (k : Int)] = noonbellref01_Nat_Text.l5 n [] m0 [.list 1 a, L8 (pre ++ (dK j x).map chD), .int .i64 ((i + 1 : Nat) : Int)] := by
  intro j
  induction j with
  | zero =>
    intro k m x pre hk hm hx hp
    obtain ⟨m, rfl⟩ : ∃ k, m = k + 1 := ⟨m - 1, by omega⟩
    rw [noonbellref01_Nat_Text.l9_eq, decide_eq_false (by omega), cond_false, wrap_succ (by omega)]
    simp [dK]
  | succ j ih =>
    intro k m x pre hk hm hx hp
    obtain ⟨m, rfl⟩ : ∃ k, m = k + 1 := ⟨m - 1, by omega⟩
    have hd : x % 10 < 10 := Nat.mod_lt _ (by omega)
    have step := ih (k + 1) m (x / 10) (pre ++ [chD (x % 10)]) (by omega) (by omega) (by omega) (by simp; omega)
    rw [List.append_assoc, List.singleton_append] at step
    rw [noonbellref01_Nat_Text.l9_eq, decide_eq_true (by omega), cond_true, tmod10, chD_wrap hd, el1, List.length_map, ble_true (by simp; omega), wrap_succ (show i < 9223372036854775807 by omega), decide_eq_true (show (((i + 1 : Nat) : Int)) < (a.length : Int) by omega), app8, tdiv10, wrap_i64_nat (by omega), wrap_succ (by omega)]
    simp only [cond_true]
    have : dK (j + 1) x = x % 10 :: dK j (x / 10) := rfl
    rw [this, List.map_cons]
    cases decide ((x : Int) > 0)
    · rw [cond_false]; exact step
    · rw [cond_true]; exact step

theorem t9_top {n m0 i : Nat} {a : List FV} (hi : i + 1 = a.length) (ha : a.length ≤ 1099511627776) : ∀ (j k m x : Nat) (pre : List UInt8), k + j = 9 → j < m → x < 10 ^ j → j ≤ 9 → pre.length + j ≤ 100000000000000 →
    noonbellref01_Nat_Text.l9 n [m0] m [.list 1 a, L8 pre, .int .i64 (i : Int), .int .i64 (x : Int), .int .i64 (k : Int)] = noonbellref01_Nat_Text.l5 n [] m0 [.list 1 a, L8 (pre ++ (dg 10 x).map chD), .int .i64 ((i + 1 : Nat) : Int)] := by
  intro j
  induction j with
  | zero =>
    intro k m x pre hk hm hx hj hp
    obtain ⟨m, rfl⟩ : ∃ k, m = k + 1 := ⟨m - 1, by omega⟩
    have : x = 0 := by simpa using hx
    subst this
    rw [noonbellref01_Nat_Text.l9_eq, decide_eq_false (by omega), cond_false, wrap_succ (by omega), dg_zero]
    simp
  | succ j ih =>
    intro k m x pre hk hm hx hj hp
    obtain ⟨m, rfl⟩ : ∃ k, m = k + 1 := ⟨m - 1, by omega⟩
    have hd : x % 10 < 10 := Nat.mod_lt _ (by omega)
    have hx9 : x < 1000000000 := Nat.lt_of_lt_of_le hx (Nat.le_trans (Nat.pow_le_pow_right (by omega) hj) (by decide))
    rw [noonbellref01_Nat_Text.l9_eq, decide_eq_true (by omega), cond_true]
    by_cases h0 : x = 0
    · subst h0
      rw [decide_eq_false (by omega), cond_false, wrap_succ (show i < 9223372036854775807 by omega), decide_eq_false (by omega), cond_false, dg_zero]
      simp
    · rw [decide_eq_true (by omega), cond_true, tmod10, chD_wrap hd, el1, List.length_map, ble_true (by simp; omega), cond_true, app8, tdiv10, wrap_i64_nat (by omega), wrap_succ (by omega)]
      rw [ih (k + 1) m (x / 10) (pre ++ [chD (x % 10)]) (by omega) (by omega) (by rw [Nat.div_lt_iff_lt_mul (by omega), ← Nat.pow_succ]; exact hx) (by omega) (by simp; omega), dg_pos (by omega) h0, List.append_assoc]
      rfl

/-- the bytes of digits of nine -/
def tb : List Nat → List UInt8
  | [] => []
  | [d] => (dg 10 d).map chD
  | d :: e :: r => (dK 9 d).map chD ++ tb (e :: r)

theorem tb_len : ∀ (e : List Nat), Dg 1000000000 e → (tb e).length ≤ 9 * e.length
  | [], _ => by simp [tb]
  | [d], h => by
    have := h d (by simp)
    have := dg_len_le (b := 10) (by omega) (n := d) (k := 9) (by omega)
    simp [tb]; omega
  | d :: e :: r, h => by
    have := tb_len (e :: r) h.tail.2
    simp only [tb, List.length_append, List.length_map, dK_len, List.length_cons] at this ⊢
    omega

theorem tb_dg : ∀ (x : Nat), tb (dg 1000000000 x) = (dg 10 x).map chD := by
  intro x
  induction x using Nat.strongRecOn with
  | _ x ih =>
    by_cases h0 : x = 0
    · subst h0; rw [dg_zero, dg_zero]; rfl
    · by_cases h1 : x / 1000000000 = 0
      · rw [dg_pos b9_2 h0, h1, dg_zero]
        have : x % 1000000000 = x := by omega
        rw [this]; rfl
      · have hne : dg 1000000000 (x / 1000000000) ≠ [] := fun q => h1 ((dg_nil b9_2).1 q)
        have hi := ih (x / 1000000000) (Nat.div_lt_self (by omega) (by omega))
        rw [dg_pos b9_2 h0]
        cases he : dg 1000000000 (x / 1000000000) with
        | nil => exact absurd he hne
        | cons e r =>
          rw [he] at hi
          rw [tb, hi, ← List.map_append, ← dg_dK h1 9 (x % 1000000000) (by omega)]
          congr 2
          omega

theorem t5_loop {n : Nat} {a : List Nat} (ha : Dg 1000000000 a) (hl : a.length ≤ 1099511627776) (hn : 10 ≤ n) : ∀ (e : List Nat) (i m : Nat) (pre : List UInt8), a.drop i = e → i + e.length = a.length → e.length < m → pre.length + 9 * e.length ≤ 90000000000000 →
    noonbellref01_Nat_Text.l5 n [] m [L64 a, L8 pre, .int .i64 (i : Int)] = noonbellref01_Nat_Text.l15 n [] n [L8 (pre ++ tb e), L8 [], .int .i64 (((pre ++ tb e).length : Int) - 1)] := by
  intro e
  induction e with
  | nil =>
    intro i m pre hi hie hm hp
    obtain ⟨m, rfl⟩ : ∃ k, m = k + 1 := ⟨m - 1, by omega⟩
    simp only [List.length_nil, Nat.add_zero] at hie
    rw [noonbellref01_Nat_Text.l5_eq, List.length_map, List.length_map, decide_eq_false (by omega), cond_false, el0, tb, List.append_nil, show IntKind.wrap .i64 ((pre.length : Int) - 1) = (pre.length : Int) - 1 from wrap64_id (by omega) (by omega)]
    rfl
  | cons d e ih =>
    intro i m pre hi hie hm hp
    obtain ⟨m, rfl⟩ : ∃ k, m = k + 1 := ⟨m - 1, by omega⟩
    simp only [List.length_cons] at hie hm hp
    have hia : i < a.length := by omega
    have hx : a[i] = d ∧ a.drop (i + 1) = e := by
      rw [drop_get hia] at hi
      cases hi; exact ⟨rfl, rfl⟩
    have hd : d < 1000000000 := by rw [← hx.1]; exact ha _ (List.getElem_mem hia)
    rw [noonbellref01_Nat_Text.l5_eq, List.length_map, decide_eq_true (by omega), cond_true, ix_nat hia, Option.bind_some, d64_at hia, asInt_int, Option.bind_some, hx.1]
    cases e with
    | nil =>
      have dl := dg_len_le (b := 10) (by omega) (n := d) (k := 9) (by omega)
      have := t9_top (n := n) (m0 := m) (a := a.map d64) (i := i) (by simp; simp at hie; omega) (by simp; omega) 9 0 n d pre (by omega) (by omega) (by omega) (by omega) (by omega)
      rw [show ((0 : Nat) : Int) = 0 from rfl] at this
      rw [this]
      exact ih (i + 1) m _ hx.2 (by simp at hie ⊢; omega) (by simp at hm ⊢; omega) (by simp; omega) |>.trans (by simp only [tb, List.append_nil])
    | cons f r =>
      simp only [List.length_cons] at hie hm hp
      have := t9_mid (n := n) (m0 := m) (a := a.map d64) (i := i) (by simp; omega) (by simp; omega) 9 0 n d pre (by omega) (by omega) (by omega) (by omega)
      rw [show ((0 : Nat) : Int) = 0 from rfl] at this
      rw [this]
      refine (ih (i + 1) m _ hx.2 (by simp; omega) (by simp; omega) (by simp [dK_len]; omega)).trans ?_
      simp only [tb, List.append_assoc]

theorem t15_loop {n : Nat} {b : List UInt8} (hl : b.length ≤ 100000000000000) : ∀ (i m : Nat) (out : List UInt8), i ≤ b.length → i < m → out.length + i ≤ 100000000000000 →
    noonbellref01_Nat_Text.l15 n [] m [L8 b, L8 out, .int .i64 ((i : Int) - 1)] = some [.str (txt (out ++ (b.take i).reverse))] := by
  intro i
  induction i with
  | zero =>
    intro m out hi hm ho
    obtain ⟨m, rfl⟩ : ∃ k, m = k + 1 := ⟨m - 1, by omega⟩
    rw [noonbellref01_Nat_Text.l15_eq, decide_eq_false (by omega), cond_false, bytesO_map]
    simp
  | succ i ih =>
    intro m out hi hm ho
    obtain ⟨m, rfl⟩ : ∃ k, m = k + 1 := ⟨m - 1, by omega⟩
    have hib : i < b.length := by omega
    have e0 : (((i + 1 : Nat) : Int) - 1) = (i : Int) := by omega
    rw [noonbellref01_Nat_Text.l15_eq, e0, decide_eq_true (by omega), cond_true, List.length_map, ix_nat hib, Option.bind_some, d8_at hib, asInt_int, Option.bind_some, el1, List.length_map, ble_true (by simp; omega), cond_true, app8, show IntKind.wrap .i64 ((i : Int) - 1) = (i : Int) - 1 from wrap64_id (by omega) (by omega), ih m (out ++ [b[i]]) (by omega) (by omega) (by simp; omega)]
    have e : (b.take (i + 1)).reverse = b[i] :: (b.take i).reverse := by rw [List.take_add_one, List.getElem?_eq_getElem hib, Option.toList_some, List.reverse_append]; rfl
    rw [e, List.append_assoc]; rfl

theorem wtext_ev {x : Nat} (hx : (dg 1000000000 x).length ≤ 1000000000000) : Ev En 68 [wL x] [sF (dtext x)] := by
  refine Ev.of (9 * (dg 1000000000 x).length + 12) fun n hn => ?_
  rw [noonbellref01_Nat_Text_eq, List.length_map]
  unfold dtext
  by_cases h0 : x = 0
  · subst h0
    rw [if_pos rfl, dg_zero]; rfl
  · have p := wlen_pos h0
    rw [if_neg h0, show (((dg 1000000000 x).length : Int) == 0) = false from beq_eq_false_iff_ne.2 (by omega), cond_false, el0]
    have hb := tb_len _ (dg_Dg b9_2 x)
    have := t5_loop (n := n) (dg_Dg b9_2 x) (by omega) (by omega) (dg 1000000000 x) 0 n [] rfl (by omega) (by omega) (by simp; omega)
    refine Eq.trans this ?_
    rw [List.nil_append]
    have := t15_loop (n := n) (b := tb (dg 1000000000 x)) (by omega) (tb (dg 1000000000 x)).length n [] (Nat.le_refl _) (by omega) (by simp; omega)
    refine Eq.trans this ?_
    rw [List.nil_append, List.take_length, tb_dg, List.map_reverse]

/-! ### Parse -/
/-- nine by nine, from the end -/
def c9 (l : List UInt8) (e : Nat) : List Nat := if e = 0 then [] else vD ((l.take e).drop (e - 9)) :: c9 l (e - 9)
termination_by e
decreasing_by omega

theorem vD_cons (c : UInt8) (t : List UInt8) : vD (c :: t) = (c.toNat - 48) * 10 ^ t.length + vD t := by
  have := vD_app [c] t
  rw [List.singleton_append] at this
  rw [this]
  simp [vD]

theorem c9_vl (l : List UInt8) : ∀ (e : Nat), e ≤ l.length → vl 1000000000 (c9 l e) = vD (l.take e) := by
  intro e
  induction e using Nat.strongRecOn with
  | _ e ih =>
    intro he
    rw [c9]
    by_cases h0 : e = 0
    · subst h0; simp [vl, vD]
    · rw [if_neg h0]
      simp only [vl]
      rw [ih (e - 9) (by omega) (by omega)]
      have hs : l.take e = l.take (e - 9) ++ (l.take e).drop (e - 9) := by
        conv => lhs; rw [← List.take_append_drop (e - 9) (l.take e)]
        rw [List.take_take, Nat.min_eq_left (by omega)]
      conv => rhs; rw [hs, vD_app]
      by_cases h9 : e ≤ 9
      · rw [show e - 9 = 0 by omega, List.take_zero]
        simp [vD]
      · have : ((l.take e).drop (e - 9)).length = 9 := by simp; omega
        rw [this, show (10 : Nat) ^ 9 = 1000000000 from rfl]
        omega

theorem c9_Dg {l : List UInt8} (h : ∀ c, c ∈ l → isD c = true) : ∀ (e : Nat), Dg 1000000000 (c9 l e) := by
  intro e
  induction e using Nat.strongRecOn with
  | _ e ih =>
    rw [c9]
    split
    · intro d hd; simp at hd
    · refine Dg.cons ?_ (ih (e - 9) (by omega))
      have := vD_lt (s := (l.take e).drop (e - 9)) fun c hc => h c (List.mem_of_mem_take (List.mem_of_mem_drop hc))
      refine Nat.lt_of_lt_of_le this ?_
      have h9 : ((l.take e).drop (e - 9)).length ≤ 9 := by simp; omega
      exact Nat.le_trans (Nat.pow_le_pow_right (by omega) h9) (by decide)

theorem c9_len (l : List UInt8) : ∀ (e : Nat), (c9 l e).length ≤ e := by
  intro e
  induction e using Nat.strongRecOn with
  | _ e ih =>
    rw [c9]
    split
    · simp
    · have := ih (e - 9) (by omega)
      simp; omega

theorem isD_nat {c : UInt8} (h : isD c = true) : 48 ≤ c.toNat ∧ c.toNat ≤ 57 := by
  simpa [isD] using h

theorem drop_getU {a : List UInt8} {i : Nat} (h : i < a.length) : a.drop i = a[i] :: a.drop (i + 1) := List.drop_eq_getElem_cons h

theorem p14_loop {n m0 : Nat} {l0 : List FV} {l : List UInt8} {e : Nat} {cs : List Nat} (hD : ∀ c, c ∈ l → isD c = true) (he : e ≤ l.length) (hl : l.length ≤ 1000000000) (hcs : cs.length ≤ 1000000000) : ∀ (d i m acc : Nat), i + d = e → d ≤ 9 → d < m → acc < 10 ^ (9 - d) →
    noonbellref01_Parse.l14 n [m0] m [.list 1 l0, sF l, L64 cs, .int .i64 (e : Int), .int .i64 (acc : Int), .int .i64 (i : Int)] = noonbellref01_Parse.l10 n [] m0 [.list 1 l0, sF l, L64 (cs ++ [acc * 10 ^ d + vD ((l.take e).drop i)]), .int .i64 ((e : Int) - 9)] := by
  intro d
  induction d with
  | zero =>
    intro i m acc hi h9 hm ha
    obtain ⟨m, rfl⟩ : ∃ k, m = k + 1 := ⟨m - 1, by omega⟩
    have : (l.take e).drop i = [] := List.drop_of_length_le (by simp; omega)
    rw [noonbellref01_Parse.l14_eq, decide_eq_false (by omega), cond_false, el1, List.length_map, ble_true (by simp; omega), cond_true, app64, this, wrap64_id (by omega) (by omega), Nat.pow_zero, Nat.mul_one, show vD [] = 0 from rfl, Nat.add_zero]
  | succ d ih =>
    intro i m acc hi h9 hm ha
    obtain ⟨m, rfl⟩ : ∃ k, m = k + 1 := ⟨m - 1, by omega⟩
    have hil : i < l.length := by omega
    have hie : i < (l.take e).length := by simp; omega
    have hg : (l.take e)[i] = l[i] := by simp
    have hc := isD_nat (hD l[i] (List.getElem_mem hil))
    have hp : 10 ^ (9 - (d + 1)) ≤ 10 ^ 8 := Nat.pow_le_pow_right (by omega) (by omega)
    have hp8 : (10 : Nat) ^ 8 = 100000000 := rfl
    have hp2 : 10 ^ (9 - d) = 10 * 10 ^ (9 - (d + 1)) := by rw [show 9 - d = 9 - (d + 1) + 1 by omega, Nat.pow_succ, Nat.mul_comm]
    have e1 : IntKind.wrap .u8 (((l[i]).toNat : Int) - 48) = ((l[i].toNat - 48 : Nat) : Int) := by
      unfold IntKind.wrap
      simp [IntKind.bits, IntKind.signed]
      omega
    have hlen : ((l.take e).drop (i + 1)).length = d := by simp; omega
    rw [noonbellref01_Parse.l14_eq, decide_eq_true (by omega), cond_true, txt_at, List.getElem?_eq_getElem hil, Option.map_some, Option.bind_some, e1, wrap_i64_nat (x := l[i].toNat - 48) (by omega), show (10 : Int) = ((10 : Nat) : Int) from rfl, mul_i64 (by omega), add_i64 (by omega), wrap_succ (by omega),
      ih (i + 1) m (acc * 10 + (l[i].toNat - 48)) (by omega) (by omega) (by omega) (by rw [hp2]; omega), drop_getU hie, hg, vD_cons, hlen, Nat.add_mul, Nat.pow_succ, ← Nat.add_assoc, Nat.mul_assoc, Nat.mul_comm 10]

theorem p10_loop {n : Nat} {l0 : List FV} {l : List UInt8} (hD : ∀ c, c ∈ l → isD c = true) (hl : l.length ≤ 1000000000) (hn : l.length + 12 ≤ n) : ∀ (e m : Nat) (cs : List Nat), e ≤ l.length → e < m → cs.length + e ≤ l.length →
    noonbellref01_Parse.l10 n [] m [.list 1 l0, sF l, L64 cs, .int .i64 (e : Int)] = some [L64 (tz (cs ++ c9 l e)), .int .i64 0] := by
  obtain ⟨n, rfl⟩ : ∃ k, n = k + 1 := ⟨n - 1, by omega⟩
  have fin : ∀ (k : Int) (m : Nat) (cs : List Nat), k ≤ 0 → cs.length ≤ l.length → noonbellref01_Parse.l10 (n + 1) [] (m + 1) [.list 1 l0, sF l, L64 cs, .int .i64 k] = some [L64 (tz cs), .int .i64 0] := fun k m cs hk hc => by
    rw [noonbellref01_Parse.l10_eq, decide_eq_false (by omega), cond_false, wtrim_run (by omega) (by omega)]
    simp only [Option.bind_some, List.getElem?_cons_zero, asLst_list]
  intro e
  induction e using Nat.strongRecOn with
  | _ e ih =>
    intro m cs he hm hc
    obtain ⟨m, rfl⟩ : ∃ k, m = k + 1 := ⟨m - 1, by omega⟩
    by_cases h0 : e = 0
    · subst h0
      rw [c9, if_pos rfl, List.append_nil]
      exact fin 0 m cs (by omega) (by omega)
    · have est : (if 0 < IntKind.wrap .i64 ((e : Int) - 9) then IntKind.wrap .i64 ((e : Int) - 9) else 0) = ((e - 9 : Nat) : Int) := by
        rw [wrap64_id (by omega) (by omega)]
        split <;> omega
      rw [noonbellref01_Parse.l10_eq, decide_eq_true (by omega), cond_true, est, show (0 : Int) = ((0 : Nat) : Int) from rfl,
        p14_loop hD he hl (by omega) (e - (e - 9)) (e - 9) (n + 1) 0 (by omega) (by omega) (by omega) (Nat.pow_pos (by omega)), Nat.zero_mul, Nat.zero_add]
      rw [c9, if_neg h0]
      by_cases h9 : e < 9
      · obtain ⟨m, rfl⟩ : ∃ k, m = k + 1 := ⟨m - 1, by omega⟩
        rw [fin _ m _ (by omega) (by simp; omega), show e - 9 = 0 by omega]
        conv => rhs; rw [c9, if_pos rfl]
        rfl
      · rw [show (e : Int) - 9 = ((e - 9 : Nat) : Int) by omega, ih (e - 9) (by omega) m _ (by omega) (by omega) (by simp; omega), List.append_assoc]
        rfl

theorem p4_good {n : Nat} {l0 : List FV} {l : List UInt8} (hl : l.length ≤ 1000000000) (hD : ∀ c, c ∈ l → isD c = true) : ∀ (d i m : Nat), i + d = l.length → d < m →
    noonbellref01_Parse.l4 n [] m [.list 1 l0, sF l, .int .i64 (i : Int)] = noonbellref01_Parse.l10 n [] n [.list 1 l0, sF l, L64 [], .int .i64 (l.length : Int)] := by
  intro d
  induction d with
  | zero =>
    intro i m hi hm
    obtain ⟨m, rfl⟩ : ∃ k, m = k + 1 := ⟨m - 1, by omega⟩
    rw [noonbellref01_Parse.l4_eq, txt_size, decide_eq_false (by omega), cond_false, el0]
    rfl
  | succ d ih =>
    intro i m hi hm
    obtain ⟨m, rfl⟩ : ∃ k, m = k + 1 := ⟨m - 1, by omega⟩
    have hil : i < l.length := by omega
    have hc := isD_nat (hD l[i] (List.getElem_mem hil))
    rw [noonbellref01_Parse.l4_eq, txt_size, decide_eq_true (by omega), cond_true, txt_at, List.getElem?_eq_getElem hil, Option.map_some, Option.bind_some, decide_eq_false (by omega), cond_false, Option.bind_some, decide_eq_false (by omega), cond_false, wrap_succ (by omega)]
    exact ih (i + 1) m (by omega) (by omega)

theorem p4_bad {n : Nat} {l0 : List FV} {l : List UInt8} (hl : l.length ≤ 1000000000) : ∀ (d i m : Nat), i + d = l.length → d < m → (∃ c, c ∈ l.drop i ∧ isD c = false) →
    noonbellref01_Parse.l4 n [] m [.list 1 l0, sF l, .int .i64 (i : Int)] = some [.list 1 [], .int .i64 10] := by
  intro d
  induction d with
  | zero =>
    intro i m hi hm hb
    obtain ⟨c, hc, _⟩ := hb
    rw [List.drop_of_length_le (by omega)] at hc
    simp at hc
  | succ d ih =>
    intro i m hi hm hb
    obtain ⟨m, rfl⟩ : ∃ k, m = k + 1 := ⟨m - 1, by omega⟩
    have hil : i < l.length := by omega
    rw [noonbellref01_Parse.l4_eq, txt_size, decide_eq_true (by omega), cond_true, txt_at, List.getElem?_eq_getElem hil, Option.map_some, Option.bind_some, Option.bind_some]
    by_cases h1 : (l[i]).toNat < 48
    · rw [decide_eq_true (by omega), cond_true]
    · rw [decide_eq_false (by omega), cond_false]
      by_cases h2 : 57 < (l[i]).toNat
      · rw [decide_eq_true (by omega), cond_true]
      · rw [decide_eq_false (by omega), cond_false, wrap_succ (by omega)]
        refine ih (i + 1) m (by omega) (by omega) ?_
        obtain ⟨c, hc, hb⟩ := hb
        rw [drop_getU hil] at hc
        rcases List.mem_cons.1 hc with rfl | hc
        · simp [isD] at hb
          omega
        · exact ⟨c, hc, hb⟩

theorem wparse_ev {l : List UInt8} (hc : canon l) (hl : l.length ≤ 1000000000) : Ev En 72 [sF l] [wL (vD l), .int .i64 0] := by
  obtain ⟨c1, c2, c3⟩ := hc
  have hp : 0 < l.length := List.length_pos_iff.2 c1
  refine Ev.of (l.length + 12) fun n hn => ?_
  rw [noonbellref01_Parse_eq, txt_size, show ((l.length : Int) == 0) = false from beq_eq_false_iff_ne.2 (by omega), cond_false]
  have body : noonbellref01_Parse.l4 n [] n [.list 1 [], sF l, .int .i64 0] = some [wL (vD l), .int .i64 0] := by
    have h1 := p4_good (n := n) (l0 := []) hl c2 l.length 0 n (by omega) (by omega)
    rw [show ((0 : Nat) : Int) = 0 from rfl] at h1
    rw [h1]
    have h2 := p10_loop (n := n) (l0 := []) c2 hl (by omega) l.length n [] (Nat.le_refl _) (by omega) (by simp)
    refine h2.trans ?_
    rw [List.nil_append, ← dg_vl b9_2 (c9_Dg c2 l.length), c9_vl l l.length (Nat.le_refl _), List.take_length]
  by_cases h1 : 1 < l.length
  · have h0 : 0 < l.length := by omega
    have hne : ((((l[0]).toNat : Nat) : Int) == 48) = false := by
      rw [beq_eq_false_iff_ne]
      intro q
      have : l[0] = 48 := UInt8.toNat_inj.1 (show l[0].toNat = 48 by omega)
      have h := c3 (by rw [List.head?_eq_getElem?, List.getElem?_eq_getElem h0, this])
      omega
    have ht := txt_at l 0
    rw [show ((0 : Nat) : Int) = 0 from rfl, List.getElem?_eq_getElem h0] at ht
    rw [decide_eq_true (by omega), cond_true, ht, Option.map_some, Option.bind_some, hne, cond_false]
    exact body
  · rw [decide_eq_false (by omega), cond_false]
    exact body

theorem wparse_bad {l : List UInt8} (hc : ¬ canon l) (hl : l.length ≤ 1000000000) : Ev En 72 [sF l] [.list 1 [], .int .i64 10] := by
  refine Ev.of (l.length + 12) fun n hn => ?_
  rw [noonbellref01_Parse_eq, txt_size]
  by_cases h0 : l = []
  · subst h0; rfl
  have hp : 0 < l.length := List.length_pos_iff.2 h0
  rw [show ((l.length : Int) == 0) = false from beq_eq_false_iff_ne.2 (by omega), cond_false]
  have ht := txt_at l 0
  rw [show ((0 : Nat) : Int) = 0 from rfl, List.getElem?_eq_getElem hp] at ht
  by_cases hd : ∀ c, c ∈ l → isD c = true
  · have h48 : l.head? = some 48 ∧ l.length ≠ 1 := by
      apply Classical.byContradiction
      intro q
      refine hc ⟨h0, hd, fun h => ?_⟩
      apply Classical.byContradiction
      intro q'
      exact q ⟨h, q'⟩
    have he : l[0] = 48 := by
      have := h48.1
      rw [List.head?_eq_getElem?, List.getElem?_eq_getElem hp] at this
      exact Option.some.inj this
    rw [decide_eq_true (by omega), cond_true, ht, Option.map_some, Option.bind_some, he]
    rfl
  · have hb : ∃ c, c ∈ l.drop 0 ∧ isD c = false := by
      apply Classical.byContradiction
      intro q
      refine hd fun c hc => ?_
      cases hq : isD c with
      | true => rfl
      | false => exact absurd ⟨c, hc, hq⟩ q
    have h1 := p4_bad (n := n) (l0 := []) hl l.length 0 n (by omega) (by omega) hb
    rw [show ((0 : Nat) : Int) = 0 from rfl] at h1
    by_cases h2 : 1 < l.length
    · rw [decide_eq_true (by omega), cond_true, ht, Option.map_some, Option.bind_some]
      cases ((((l[0]).toNat : Nat) : Int) == 48)
      · rw [cond_false]; exact h1
      · rfl
    · rw [decide_eq_false (by omega), cond_false]
      exact h1

end Rf
