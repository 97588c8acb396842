/- The document's nat (digits to the base of a thousand million): each function by what its numbers are. -/
import Derived.Test.YtebaohjeodeaoaaGreatDoorNatB
import Derived.Test.YtebaohjeodeaoaaGreatDoorEqRefN
set_option linter.unusedSimpArgs false
set_option linter.unusedVariables false
set_option maxHeartbeats 1000000
namespace Rf
open Go

theorem b9_2 : 2 ≤ 1000000000 := by decide
abbrev wL (x : Nat) : FV := L64 (dg 1000000000 x)

theorem el1 (z v : FV) : elemsOf 1 z [(0, v)] = [v] := rfl
theorem el0 (z : FV) : elemsOf 0 z [] = [] := rfl
theorem app64 (l : List Nat) (d : Nat) : l.map d64 ++ [FV.int .i64 (d : Int)] = (l ++ [d]).map d64 := by simp
theorem tmod9 (x : Nat) : Int.tmod (x : Int) 1000000000 = ((x % 1000000000 : Nat) : Int) := rfl
theorem tdiv9 (x : Nat) : Int.tdiv (x : Int) 1000000000 = ((x / 1000000000 : Nat) : Int) := rfl
theorem rep64 (k : Nat) : List.replicate k (FV.int .i64 0) = (List.replicate k 0).map d64 := by rw [List.map_replicate]; rfl
theorem mk8 {k : Nat} (h : k ≤ 1099511627776) : mkLen 8 (k : Int) = some k := by
  unfold mkLen
  rw [if_pos ⟨by omega, by omega, by omega⟩]; simp
theorem set64 {pre : List Nat} {d y : Nat} {r : List Nat} {i : Nat} (h : pre.length = i) : List.set ((pre ++ d :: r).map d64) i (.int .i64 (y : Int)) = (pre ++ y :: r).map d64 := by
  rw [List.map_append, List.map_cons, set_at (by simpa using h), List.map_append, List.map_cons]
theorem mid64 {pre : List Nat} {d : Nat} {r : List Nat} {i : Nat} (h : pre.length = i) : at' ((pre ++ d :: r).map d64) i 0 = some (.int .i64 (d : Int)) := by
  subst h
  rw [at_map, List.getElem?_append_right (Nat.le_refl _), Nat.sub_self]; rfl

theorem wlen_pos {x : Nat} (h : x ≠ 0) : 0 < (dg 1000000000 x).length := by
  rcases Nat.eq_zero_or_pos (dg 1000000000 x).length with q | q
  · exact absurd ((dg_nil b9_2).1 (List.eq_nil_of_length_eq_zero q)) h
  · exact q
theorem wlen_mono {x y : Nat} (h : x ≤ y) : (dg 1000000000 x).length ≤ (dg 1000000000 y).length := by
  apply Nat.le_of_not_lt
  intro hlt
  have := lt_of_len b9_2 hlt
  omega

/-! ### trim, digit -/
theorem wtrim_loop {n : Nat} {l0 : List FV} : ∀ (k : Nat) (l : List Nat) (m : Nat), l.length = k → k < m → k ≤ 1099511627776 + 1 → noonbellref01_trim.l1 n [] m [.list 1 l0, L64 l] = some [L64 (tz l)] := by
  intro k
  induction k with
  | zero =>
    intro l m hl hm hk
    obtain ⟨m, rfl⟩ : ∃ k, m = k + 1 := ⟨m - 1, by omega⟩
    have : l = [] := List.eq_nil_of_length_eq_zero hl
    subst this
    rw [noonbellref01_trim.l1_eq]
    rfl
  | succ k ih =>
    intro l m hl hm hk
    obtain ⟨m, rfl⟩ : ∃ k, m = k + 1 := ⟨m - 1, by omega⟩
    obtain ⟨r, d, rfl⟩ : ∃ r d, l = r ++ [d] := by
      rcases List.eq_nil_or_concat l with h | ⟨r, d, h⟩
      · subst h; simp at hl
      · exact ⟨r, d, by simpa using h⟩
    have hr : r.length = k := by simpa using hl
    rw [noonbellref01_trim.l1_eq, List.length_map, decide_eq_true (by omega), cond_true, hl]
    have e1 : IntKind.wrap .i64 (((k + 1 : Nat) : Int) - 1) = (k : Int) := by rw [wrap64_id (by omega) (by omega)]; omega
    have hat : at' ((r ++ [d]).map d64) k 0 = some (.int .i64 (d : Int)) := by
      rw [d64_at (by rw [hl]; omega)]
      simp [← hr]
    rw [e1, ix_nat (by omega), Option.bind_some, hat, asInt_int, Option.bind_some]
    by_cases h0 : d = 0
    · subst h0
      rw [show (((0 : Nat) : Int) == 0) = true from rfl, cond_true, bd_nat (by omega), Option.bind_some, tz_snoc_zero]
      have : List.drop 0 (List.take k ((r ++ [0]).map d64)) = r.map d64 := by
        rw [List.drop_zero, List.map_append, List.take_append_of_le_length (by simp [hr]), List.take_of_length_le (by simp [hr])]
      rw [this]
      exact ih r m hr (by omega) (by omega)
    · rw [show ((d : Int) == 0) = false from beq_eq_false_iff_ne.2 (by omega), cond_false, tz_snoc h0]

theorem wtrim_run {n : Nat} {l : List Nat} (h : l.length ≤ 1099511627776 + 1) (hn : l.length < n) : evF En (n + 1) 118 [L64 l] = some [L64 (tz l)] := by
  rw [noonbellref01_trim_eq]
  exact wtrim_loop l.length l n rfl hn h

theorem wdigit_run {n i : Nat} {l : List Nat} : evF En (n + 1) 119 [L64 l, .int .i64 (i : Int)] = some [.int .i64 ((l.getD i 0 : Nat) : Int)] := by
  rw [noonbellref01_digit_eq, List.length_map]
  by_cases h : i < l.length
  · rw [decide_eq_true (by omega), cond_true, ix_nat h, Option.bind_some, d64_at h, asInt_int, Option.bind_some, List.getD_eq_getElem?_getD, List.getElem?_eq_getElem h]
    rfl
  · rw [decide_eq_false (by omega), cond_false, List.getD_eq_getElem?_getD, List.getElem?_eq_none (by omega)]
    rfl

/-! ### Of -/
theorem wof_loop {n : Nat} {l0 : List FV} : ∀ (x m : Nat) (pre : List Nat), x < m → x < 18446744073709551616 → pre.length + x ≤ 1099511627776 * 18446744073709551616 → pre.length + (dg 1000000000 x).length ≤ 1099511627776 →
    noonbellref01_Of.l2 n [] m [.list 1 l0, .int .u64 (x : Int), L64 pre] = some [L64 (pre ++ dg 1000000000 x)] := by
  intro x
  induction x using Nat.strongRecOn with
  | _ x ih =>
    intro m pre hm hx hp0 hp
    obtain ⟨m, rfl⟩ : ∃ k, m = k + 1 := ⟨m - 1, by omega⟩
    rw [noonbellref01_Of.l2_eq]
    by_cases h0 : x = 0
    · subst h0
      rw [decide_eq_false (by omega), cond_false, dg_zero, List.append_nil]
    · have hlt : x / 1000000000 < x := Nat.div_lt_self (by omega) (by omega)
      rw [dg_pos b9_2 h0, List.length_cons] at hp
      rw [decide_eq_true (by omega), cond_true, tmod9, wrap_i64_nat (by omega), el1, List.length_map, ble_true (by simp; omega), cond_true, app64, tdiv9, wrap_u64_id (by omega), ih (x / 1000000000) hlt m (pre ++ [x % 1000000000]) (by omega) (by omega) (by simp; omega) (by simp; omega)]
      rw [dg_pos b9_2 h0, List.append_assoc]; rfl

theorem wof_ev {x : Nat} (hx : x < 18446744073709551616) : Ev En 65 [.int .u64 (x : Int)] [wL x] := by
  refine Ev.of (x + 1) fun n hn => ?_
  rw [noonbellref01_Of_eq, el0]
  have hl : (dg 1000000000 x).length ≤ 3 := dg_len_le b9_2 (by omega)
  have := wof_loop (n := n) (l0 := []) x n [] (by omega) hx (by simp; omega) (by simp; omega)
  exact this

/-! ### small -/
theorem small_loop {n : Nat} {a : List Nat} {k : Nat} (ha : Dg 1000000000 a) (hk : k < 1000000000) (hl : a.length ≤ 1099511627775) (hn : a.length + 3 ≤ n) {l1 : List FV} : ∀ (d i m : Nat) (pre : List Nat) (c : Nat), i + d = a.length → d < m → pre.length = i → c < 1000000000 →
    noonbellref01_small.l3 n [] m [L64 a, .list 1 l1, .int .i64 (k : Int), .int .i64 (c : Int), L64 pre, .int .i64 (i : Int)] = some [L64 (tz (pre ++ mulL 1000000000 (a.drop i) k c))] := by
  intro d
  induction d with
  | zero =>
    intro i m pre c hi hm hp hc
    obtain ⟨m, rfl⟩ : ∃ k, m = k + 1 := ⟨m - 1, by omega⟩
    obtain ⟨n, rfl⟩ : ∃ k, n = k + 1 := ⟨n - 1, by omega⟩
    rw [noonbellref01_small.l3_eq, List.length_map, decide_eq_false (by omega), cond_false, el1, List.length_map, ble_true (by simp; omega), cond_true, app64, wtrim_run (by simp; omega) (by simp; omega)]
    simp only [Option.bind_some, List.getElem?_cons_zero, asLst_list]
    rw [List.drop_of_length_le (by omega)]
    rfl
  | succ d ih =>
    intro i m pre c hi hm hp hc
    obtain ⟨m, rfl⟩ : ∃ k, m = k + 1 := ⟨m - 1, by omega⟩
    have hia : i < a.length := by omega
    have hx := ha a[i] (List.getElem_mem hia)
    have hcl := carry_lt hx hk hc
    have hxk : a[i] * k ≤ 999999999 * 999999999 := Nat.mul_le_mul (by omega) (by omega)
    rw [noonbellref01_small.l3_eq, List.length_map, decide_eq_true (by omega), cond_true, ix_nat hia, Option.bind_some, d64_at hia, asInt_int, Option.bind_some, mul_i64 (by omega), add_i64 (by omega), el1, List.length_map, ble_true (by simp; omega), cond_true, tmod9, app64, tdiv9, wrap_i64_nat (by omega), wrap_succ (by omega),
      ih (i + 1) m (pre ++ [(c + a[i] * k) % 1000000000]) ((c + a[i] * k) / 1000000000) (by omega) (by omega) (by simp [hp]) (Nat.div_lt_of_lt_mul hcl), drop_get hia, List.append_assoc]
    rfl

theorem small_run {n x k c : Nat} (hk : k < 1000000000) (hc : c < 1000000000) (hx : (dg 1000000000 x).length ≤ 1099511627775) (hn : (dg 1000000000 x).length + 3 ≤ n) : evF En (n + 1) 212 [wL x, .int .i64 (k : Int), .int .i64 (c : Int)] = some [wL (x * k + c)] := by
  rw [noonbellref01_small_eq, el0]
  have := small_loop (n := n) (dg_Dg b9_2 x) hk hx hn (l1 := []) (dg 1000000000 x).length 0 n [] c (by omega) (by omega) rfl hc
  refine this.trans ?_
  rw [List.nil_append, List.drop_zero, ← dg_vl b9_2 (mulL_Dg _ k c (dg_Dg b9_2 x) hk hc), vl_mulL, vl_dg b9_2]

theorem small0_run {n x k : Nat} (hk : k < 1000000000) (hx : (dg 1000000000 x).length ≤ 1099511627775) (hn : (dg 1000000000 x).length + 3 ≤ n) : evF En (n + 1) 212 [wL x, .int .i64 (k : Int), .int .i64 0] = some [wL (x * k)] := by
  have := small_run (n := n) (x := x) (k := k) (c := 0) hk (by omega) hx hn
  rwa [Nat.add_zero] at this

/-! ### two numbers side by side -/
/-- noughts on top, up to so many digits -/
def pd (N : Nat) (a : List Nat) : List Nat := a ++ List.replicate (N - a.length) 0
theorem pd_len {N : Nat} {a : List Nat} (h : a.length ≤ N) : (pd N a).length = N := by simp [pd]; omega
theorem vl_zeros (B k : Nat) : vl B (List.replicate k 0) = 0 := by
  induction k with
  | zero => rfl
  | succ k ih => rw [List.replicate_succ]; simp [vl, ih]
theorem vl_pd (B N : Nat) (a : List Nat) : vl B (pd N a) = vl B a := by rw [pd, vl_app, vl_zeros]; simp
theorem Dg_pd {B N : Nat} {a : List Nat} (hB : 2 ≤ B) (h : Dg B a) : Dg B (pd N a) := h.app fun d hd => by have := List.eq_of_mem_replicate hd; omega
theorem pd_get {N i : Nat} {a : List Nat} (h : i < (pd N a).length) : (pd N a)[i] = a.getD i 0 := by
  simp only [pd, List.getElem_append, List.getD_eq_getElem?_getD]
  split
  · rename_i h'; rw [List.getElem?_eq_getElem h']; rfl
  · rename_i h'; rw [List.getElem?_eq_none (by omega)]; simp

theorem max_nat (a b : Nat) : (if (a : Int) < (b : Int) then (b : Int) else (a : Int)) = ((max a b : Nat) : Int) := by
  split <;> omega

/-! ### Cmp -/
theorem wcmp_loop {n : Nat} {a b : List Nat} {N : Nat} (hN : N ≤ 1099511627776) (ha : Dg 1000000000 a) (hb : Dg 1000000000 b) (h1 : a.length ≤ N) (h2 : b.length ≤ N) (hn : 1 ≤ n) : ∀ (i m : Nat), i ≤ N → i < m → (pd N a).drop i = (pd N b).drop i →
    noonbellref01_Nat_Cmp.l2 n [] m [L64 a, L64 b, .int .i64 ((i : Int) - 1)] = some [.int .i64 (cmpN (vl 1000000000 a) (vl 1000000000 b))] := by
  have la := pd_len h1
  have lb := pd_len h2
  have da := Dg_pd (N := N) b9_2 ha
  have db := Dg_pd (N := N) b9_2 hb
  intro i
  induction i with
  | zero =>
    intro m hi hm he
    obtain ⟨m, rfl⟩ : ∃ k, m = k + 1 := ⟨m - 1, by omega⟩
    rw [List.drop_zero, List.drop_zero] at he
    have : vl 1000000000 a = vl 1000000000 b := by rw [← vl_pd _ N a, he, vl_pd]
    rw [noonbellref01_Nat_Cmp.l2_eq, decide_eq_false (by omega), cond_false, this]
    simp [cmpN]
  | succ i ih =>
    intro m hi hm he
    obtain ⟨m, rfl⟩ : ∃ k, m = k + 1 := ⟨m - 1, by omega⟩
    obtain ⟨n, rfl⟩ : ∃ k, n = k + 1 := ⟨n - 1, by omega⟩
    have e0 : (((i + 1 : Nat) : Int) - 1) = (i : Int) := by omega
    have hia : i < (pd N a).length := by omega
    have hib : i < (pd N b).length := by omega
    rw [noonbellref01_Nat_Cmp.l2_eq, e0, decide_eq_true (by omega), cond_true]
    simp only [wdigit_run, Option.bind_some, List.getElem?_cons_zero, asInt_int]
    have ea := pd_get hia
    have eb := pd_get hib
    have sa : pd N a = (pd N a).take i ++ (pd N a)[i] :: (pd N a).drop (i + 1) := by rw [← drop_get hia, List.take_append_drop]
    have sb : pd N b = (pd N b).take i ++ (pd N b)[i] :: (pd N b).drop (i + 1) := by rw [← drop_get hib, List.take_append_drop]
    have ta : Dg 1000000000 ((pd N a).take i) := fun d hd => da d (List.mem_of_mem_take hd)
    have tb : Dg 1000000000 ((pd N b).take i) := fun d hd => db d (List.mem_of_mem_take hd)
    have tl : ((pd N a).take i).length = ((pd N b).take i).length := by rw [List.length_take, List.length_take, la, lb]
    rw [← ea, ← eb]
    by_cases hlt : (pd N a)[i] < (pd N b)[i]
    · rw [decide_eq_true (by omega), cond_true]
      have := vl_cmp (b := 1000000000) (by omega) ta tb tl hlt ((pd N b).drop (i + 1))
      rw [← sb, ← he, ← sa, vl_pd, vl_pd] at this
      unfold cmpN
      rw [if_pos this]
    · rw [decide_eq_false (by omega), cond_false]
      by_cases hgt : (pd N b)[i] < (pd N a)[i]
      · rw [decide_eq_true (by omega), cond_true]
        have := vl_cmp (b := 1000000000) (by omega) tb ta tl.symm hgt ((pd N a).drop (i + 1))
        rw [← sa, he, ← sb, vl_pd, vl_pd] at this
        unfold cmpN
        rw [if_neg (by omega), if_pos this]
      · rw [decide_eq_false (by omega), cond_false, show IntKind.wrap .i64 ((i : Int) - 1) = (i : Int) - 1 from wrap64_id (by omega) (by omega)]
        have heq : (pd N a)[i] = (pd N b)[i] := by omega
        exact ih m (by omega) (by omega) (by rw [drop_get hia, drop_get hib, heq, he])

theorem wcmp_run {n x y : Nat} (hx : (dg 1000000000 x).length ≤ 1099511627776) (hy : (dg 1000000000 y).length ≤ 1099511627776) (hn : (dg 1000000000 x).length + (dg 1000000000 y).length + 1 ≤ n) : evF En (n + 1) 74 [wL x, wL y] = some [.int .i64 (cmpN x y)] := by
  rw [noonbellref01_Nat_Cmp_eq, List.length_map, List.length_map, max_nat, show ∀ k : Nat, k ≤ 1099511627776 → IntKind.wrap .i64 ((k : Int) - 1) = (k : Int) - 1 from fun k hk => wrap64_id (by omega) (by omega)]
  · have := wcmp_loop (n := n) (N := max (dg 1000000000 x).length (dg 1000000000 y).length) (by omega) (dg_Dg b9_2 x) (dg_Dg b9_2 y) (by omega) (by omega) (by omega) (max (dg 1000000000 x).length (dg 1000000000 y).length) n (Nat.le_refl _) (by omega)
      (by rw [List.drop_of_length_le (by rw [pd_len (by omega)]; exact Nat.le_refl _), List.drop_of_length_le (by rw [pd_len (by omega)]; exact Nat.le_refl _)])
    rw [vl_dg b9_2, vl_dg b9_2] at this
    exact this
  · omega

/-! ### Add -/
theorem wadd_loop {n : Nat} {a b : List Nat} {N : Nat} (hN : N ≤ 1099511627775) (hNe : N = max a.length b.length) (ha : Dg 1000000000 a) (hb : Dg 1000000000 b) (hn : N + 3 ≤ n) {l2 : List FV} : ∀ (d i m : Nat) (pre : List Nat) (c : Nat), i + d = N → d < m → pre.length = i → c ≤ 1 →
    noonbellref01_Nat_Add.l4 n [] m [L64 a, L64 b, .list 1 l2, L64 pre, .int .i64 (c : Int), .int .i64 (i : Int)] = some [L64 (tz (pre ++ addL 1000000000 ((pd N a).drop i) ((pd N b).drop i) c))] := by
  have la := pd_len (N := N) (a := a) (by omega)
  have lb := pd_len (N := N) (a := b) (by omega)
  have da := Dg_pd (N := N) b9_2 ha
  have db := Dg_pd (N := N) b9_2 hb
  obtain ⟨n, rfl⟩ : ∃ k, n = k + 1 := ⟨n - 1, by omega⟩
  intro d
  induction d with
  | zero =>
    intro i m pre c hi hm hp hc
    obtain ⟨m, rfl⟩ : ∃ k, m = k + 1 := ⟨m - 1, by omega⟩
    rw [noonbellref01_Nat_Add.l4_eq]
    simp only [List.length_map]
    rw [decide_eq_false (by omega), cond_false, decide_eq_false (by omega), cond_false, el1, ble_true (by simp; omega), cond_true, app64, wtrim_run (by simp; omega) (by simp; omega)]
    simp only [Option.bind_some, List.getElem?_cons_zero, asLst_list]
    rw [List.drop_of_length_le (by omega)]
    rfl
  | succ d ih =>
    intro i m pre c hi hm hp hc
    obtain ⟨m, rfl⟩ : ∃ k, m = k + 1 := ⟨m - 1, by omega⟩
    have hia : i < (pd N a).length := by omega
    have hib : i < (pd N b).length := by omega
    have ea := pd_get hia
    have eb := pd_get hib
    have hx := da _ (List.getElem_mem hia)
    have hy := db _ (List.getElem_mem hib)
    have rest : noonbellref01_Nat_Add.l4 (n + 1) [] m [L64 a, L64 b, .list 1 l2, L64 (pre ++ [(c + (pd N a)[i] + (pd N b)[i]) % 1000000000]), .int .i64 (((c + (pd N a)[i] + (pd N b)[i]) / 1000000000 : Nat) : Int), .int .i64 ((i + 1 : Nat) : Int)] = some [L64 (tz (pre ++ addL 1000000000 ((pd N a).drop i) ((pd N b).drop i) c))] := by
      rw [ih (i + 1) m (pre ++ [(c + (pd N a)[i] + (pd N b)[i]) % 1000000000]) ((c + (pd N a)[i] + (pd N b)[i]) / 1000000000) (by omega) (by omega) (by simp [hp]) (by
        have := Nat.div_lt_of_lt_mul (m := c + (pd N a)[i] + (pd N b)[i]) (n := 1000000000) (k := 2) (by omega)
        omega), drop_get hia, drop_get hib, List.append_assoc]
      rfl
    rw [noonbellref01_Nat_Add.l4_eq]
    simp only [wdigit_run, Option.bind_some, List.getElem?_cons_zero, asInt_int]
    rw [← ea, ← eb, add_i64 (show c + (pd N a)[i] < 9223372036854775808 by omega), add_i64 (show c + (pd N a)[i] + (pd N b)[i] < 9223372036854775808 by omega), tmod9, tdiv9, wrap_i64_nat (by omega), el1, List.length_map, List.length_map, List.length_map, ble_true (by simp; omega), app64, wrap_succ (by omega)]
    simp only [cond_true]
    by_cases h1 : i < a.length
    · rw [decide_eq_true (by omega), cond_true]
      exact rest
    · rw [decide_eq_false (by omega), cond_false, decide_eq_true (by omega), cond_true]
      exact rest

theorem wadd_ev {x y : Nat} (hx : (dg 1000000000 x).length ≤ 1099511627775) (hy : (dg 1000000000 y).length ≤ 1099511627775) : Ev En 73 [wL x, wL y] [wL (x + y)] := by
  refine Ev.of ((dg 1000000000 x).length + (dg 1000000000 y).length + 3) fun n hn => ?_
  rw [noonbellref01_Nat_Add_eq, el0]
  have := wadd_loop (n := n) (N := max (dg 1000000000 x).length (dg 1000000000 y).length) (by omega) rfl (dg_Dg b9_2 x) (dg_Dg b9_2 y) (by omega) (l2 := []) (max (dg 1000000000 x).length (dg 1000000000 y).length) 0 n [] 0 (by omega) (by omega) rfl (by omega)
  refine this.trans ?_
  rw [List.nil_append, List.drop_zero, List.drop_zero, ← dg_vl b9_2 (addL_Dg b9_2 _ _ 0 (Dg_pd b9_2 (dg_Dg b9_2 x)) (Dg_pd b9_2 (dg_Dg b9_2 y)) (by omega)), vl_addL _ _ _ (by rw [pd_len (by omega), pd_len (by omega)]; exact Nat.le_refl _), vl_pd, vl_pd, vl_dg b9_2, vl_dg b9_2, Nat.add_zero]

/-! ### Sub -/
theorem headD_drop (b : List Nat) (i : Nat) : (b.drop i).headD 0 = b.getD i 0 := by
  rw [List.headD_eq_head?_getD, List.head?_drop, List.getD_eq_getElem?_getD]

theorem wsub_loop {n : Nat} {a b : List Nat} (ha : Dg 1000000000 a) (hb : Dg 1000000000 b) (hl : a.length ≤ 1099511627775) (hn : a.length + 3 ≤ n) {l2 : List FV} : ∀ (d i m : Nat) (pre : List Nat) (c : Nat), i + d = a.length → d < m → pre.length = i → c ≤ 1 →
    noonbellref01_Nat_Sub.l6 n [] m [L64 a, L64 b, .list 1 l2, L64 pre, .int .i64 (c : Int), .int .i64 (i : Int)] = some [L64 (tz (pre ++ (subL 1000000000 (a.drop i) (b.drop i) c).1)), .int .i64 0] := by
  obtain ⟨n, rfl⟩ : ∃ k, n = k + 1 := ⟨n - 1, by omega⟩
  intro d
  induction d with
  | zero =>
    intro i m pre c hi hm hp hc
    obtain ⟨m, rfl⟩ : ∃ k, m = k + 1 := ⟨m - 1, by omega⟩
    rw [noonbellref01_Nat_Sub.l6_eq, List.length_map, decide_eq_false (by omega), cond_false, wtrim_run (by omega) (by omega)]
    simp only [Option.bind_some, List.getElem?_cons_zero, asLst_list]
    rw [List.drop_of_length_le (by omega), subL, List.append_nil]
  | succ d ih =>
    intro i m pre c hi hm hp hc
    obtain ⟨m, rfl⟩ : ∃ k, m = k + 1 := ⟨m - 1, by omega⟩
    have hia : i < a.length := by omega
    have hx := ha a[i] (List.getElem_mem hia)
    have hy : b.getD i 0 < 1000000000 := by
      rw [← headD_drop]
      exact Dg.headD (by omega) fun d hd => hb d (List.mem_of_mem_drop hd)
    rw [noonbellref01_Nat_Sub.l6_eq]
    simp only [List.length_map, ix_nat hia, d64_at hia, wdigit_run, Option.bind_some, List.getElem?_cons_zero, asInt_int]
    rw [decide_eq_true (by omega), cond_true, wrap64_id (x := ((a[i] : Nat) : Int) - _) (by omega) (by omega), wrap64_id (x := ((a[i] : Nat) : Int) - _ - _) (by omega) (by omega), wrap_succ (by omega)]
    rw [drop_get hia, subL, headD_drop, List.tail_drop]
    by_cases hlt : a[i] < b.getD i 0 + c
    · have e : (a[i] : Int) - (b.getD i 0 : Nat) - c + 1000000000 = ((1000000000 + a[i] - b.getD i 0 - c : Nat) : Int) := by omega
      rw [decide_eq_true (by omega), cond_true, e, wrap_i64_nat (by omega), el1, ble_true (by simp; omega), cond_true, app64, if_pos hlt]
      have := ih (i + 1) m (pre ++ [1000000000 + a[i] - b.getD i 0 - c]) 1 (by omega) (by omega) (by simp [hp]) (by omega)
      refine this.trans ?_
      rw [Nat.mod_eq_of_lt (show 1000000000 + a[i] - b.getD i 0 - c < 1000000000 by omega), List.append_assoc]; rfl
    · have e : (a[i] : Int) - (b.getD i 0 : Nat) - c = ((a[i] - b.getD i 0 - c : Nat) : Int) := by omega
      rw [decide_eq_false (by omega), cond_false, e, el1, ble_true (by simp; omega), cond_true, app64, if_neg hlt]
      have := ih (i + 1) m (pre ++ [a[i] - b.getD i 0 - c]) 0 (by omega) (by omega) (by simp [hp]) (by omega)
      refine this.trans ?_
      rw [show (1000000000 + a[i] - b.getD i 0 - c) % 1000000000 = a[i] - b.getD i 0 - c by omega, List.append_assoc]; rfl

theorem wsub_run {n x y : Nat} (hyx : y ≤ x) (hx : (dg 1000000000 x).length ≤ 1099511627775) (hn : (dg 1000000000 x).length * 2 + 4 ≤ n) : evF En (n + 1) 75 [wL x, wL y] = some [wL (x - y), .int .i64 0] := by
  have hlen := wlen_mono hyx
  obtain ⟨n, rfl⟩ : ∃ k, n = k + 1 := ⟨n - 1, by omega⟩
  rw [noonbellref01_Nat_Sub_eq, wcmp_run (by omega) (by omega) (by omega)]
  simp only [Option.bind_some, List.getElem?_cons_zero, asInt_int]
  rw [decide_eq_false (by unfold cmpN; rw [if_neg (by omega)]; split <;> omega), cond_false, el0]
  have := wsub_loop (n := n + 1) (dg_Dg b9_2 x) (dg_Dg b9_2 y) hx (by omega) (l2 := []) (dg 1000000000 x).length 0 (n + 1) [] 0 (by omega) (by omega) rfl (by omega)
  refine this.trans ?_
  rw [List.nil_append, List.drop_zero, List.drop_zero]
  obtain ⟨g1, g2, g3, g4⟩ := vl_subL b9_2 (dg 1000000000 x) (dg 1000000000 y) 0 (dg_Dg b9_2 x) (dg_Dg b9_2 y) (by omega) hlen
  rw [vl_dg b9_2, vl_dg b9_2] at g1
  have hv := vl_lt (by omega) g2
  rw [g3] at hv
  have : (subL 1000000000 (dg 1000000000 x) (dg 1000000000 y) 0).2 = 0 := by
    rcases Nat.lt_or_ge 0 (subL 1000000000 (dg 1000000000 x) (dg 1000000000 y) 0).2 with q | q
    · have e : (subL 1000000000 (dg 1000000000 x) (dg 1000000000 y) 0).2 = 1 := by omega
      rw [e] at g1
      omega
    · omega
  rw [this] at g1
  rw [← dg_vl b9_2 g2]
  have e : vl 1000000000 (subL 1000000000 (dg 1000000000 x) (dg 1000000000 y) 0).1 = x - y := by omega
  rw [e]

theorem wsub_below {n x y : Nat} (hxy : x < y) (hx : (dg 1000000000 x).length ≤ 1099511627775) (hy : (dg 1000000000 y).length ≤ 1099511627775) (hn : (dg 1000000000 x).length + (dg 1000000000 y).length + 2 ≤ n) : evF En (n + 1) 75 [wL x, wL y] = some [.list 1 [], .int .i64 11] := by
  obtain ⟨n, rfl⟩ : ∃ k, n = k + 1 := ⟨n - 1, by omega⟩
  rw [noonbellref01_Nat_Sub_eq, wcmp_run (by omega) (by omega) (by omega)]
  simp only [Option.bind_some, List.getElem?_cons_zero, asInt_int]
  rw [decide_eq_true (by unfold cmpN; rw [if_pos hxy]; omega), cond_true]

/-! ### Mul -/
theorem wmul_row {n m0 : Nat} {a b : List Nat} (hb : Dg 1000000000 b) (hl : a.length + b.length ≤ 1099511627776) {l1 : List FV} {x i : Nat} (hx : x < 1000000000) (hia : i < a.length) (hai : a[i] = x) : ∀ (e : List Nat) (k m : Nat) (pre acc : List Nat) (c : Nat), b.drop k = e → k + e.length = b.length → e.length < m → pre.length = i + k → e.length < acc.length → Dg 1000000000 acc → c < 1000000000 →
    noonbellref01_Nat_Mul.l9 n [m0] m [L64 a, L64 b, .list 1 l1, L64 (pre ++ acc), .int .i64 (i : Int), .int .i64 (c : Int), .int .i64 (k : Int)] =
      noonbellref01_Nat_Mul.l5 n [] m0 [L64 a, L64 b, .list 1 l1, L64 (pre ++ maRow 1000000000 acc e x c), .int .i64 ((i + 1 : Nat) : Int)] := by
  intro e
  induction e with
  | nil =>
    intro k m pre acc c hk hke hm hp hacc hd hc
    obtain ⟨m, rfl⟩ : ∃ k, m = k + 1 := ⟨m - 1, by omega⟩
    simp only [List.length_nil, Nat.add_zero] at hke
    obtain ⟨h, t, rfl⟩ : ∃ h t, acc = h :: t := by
      cases acc with
      | nil => simp at hacc
      | cons h t => exact ⟨h, t, rfl⟩
    have hlt : i + b.length < (pre ++ h :: t).length := by simp; omega
    rw [noonbellref01_Nat_Mul.l9_eq, List.length_map, decide_eq_false (by omega), cond_false, add_i64 (by omega), List.length_map, ix_nat hlt, Option.bind_some, set64 (by omega), wrap_succ (by omega)]
    rfl
  | cons y e ih =>
    intro k m pre acc c hk hke hm hp hacc hd hc
    obtain ⟨m, rfl⟩ : ∃ k, m = k + 1 := ⟨m - 1, by omega⟩
    obtain ⟨h, t, rfl⟩ : ∃ h t, acc = h :: t := by
      cases acc with
      | nil => simp at hacc
      | cons h t => exact ⟨h, t, rfl⟩
    simp only [List.length_cons] at hke hm hacc
    have hkb : k < b.length := by omega
    have hy : b[k] = y ∧ b.drop (k + 1) = e := by
      rw [drop_get hkb] at hk
      cases hk; exact ⟨rfl, rfl⟩
    have hyl : y < 1000000000 := by rw [← hy.1]; exact hb _ (List.getElem_mem hkb)
    obtain ⟨hh, ht⟩ := hd.tail
    have hlt : i + k < (pre ++ h :: t).length := by simp; omega
    have hxy : x * y ≤ 999999999 * 999999999 := Nat.mul_le_mul (by omega) (by omega)
    rw [noonbellref01_Nat_Mul.l9_eq, add_i64 (by omega)]
    simp only [List.length_map, ix_nat hlt, mid64 (show pre.length = i + k by omega), ix_nat hia, d64_at hia, ix_nat hkb, d64_at hkb, Option.bind_some, asInt_int, hy.1, hai]
    rw [decide_eq_true (by omega), cond_true, mul_i64 (by omega), add_i64 (by omega), add_i64 (by omega), tmod9, tdiv9, wrap_i64_nat (by omega), set64 (by omega), wrap_succ (by omega), Nat.add_assoc c h]
    have := ih (k + 1) m (pre ++ [(c + (h + x * y)) % 1000000000]) t ((c + (h + x * y)) / 1000000000) hy.2 (by omega) (by omega) (by simp; omega) (by omega) ht (Nat.div_lt_of_lt_mul (by omega))
    rw [List.append_assoc] at this
    refine this.trans ?_
    simp only [maRow, List.append_assoc]
    rfl

theorem wmul_outer {n : Nat} {a b : List Nat} (ha : Dg 1000000000 a) (hb : Dg 1000000000 b) (hl : a.length + b.length ≤ 1099511627776) (hn : a.length + b.length + 3 ≤ n) {l1 : List FV} : ∀ (e : List Nat) (i m : Nat) (pre w : List Nat), a.drop i = e → i + e.length = a.length → e.length < m → pre.length = i → w.length = b.length → Dg 1000000000 w →
    noonbellref01_Nat_Mul.l5 n [] m [L64 a, L64 b, .list 1 l1, L64 (pre ++ (w ++ List.replicate e.length 0)), .int .i64 (i : Int)] = some [L64 (tz (pre ++ mulO 1000000000 e (w ++ List.replicate e.length 0) b))] := by
  intro e
  induction e with
  | nil =>
    intro i m pre w hi hie hm hp hw hd
    obtain ⟨m, rfl⟩ : ∃ k, m = k + 1 := ⟨m - 1, by omega⟩
    obtain ⟨n, rfl⟩ : ∃ k, n = k + 1 := ⟨n - 1, by omega⟩
    simp only [List.length_nil, Nat.add_zero] at hie
    rw [noonbellref01_Nat_Mul.l5_eq, List.length_map, decide_eq_false (by omega), cond_false, wtrim_run (by simp; omega) (by simp; omega)]
    simp only [Option.bind_some, List.getElem?_cons_zero, asLst_list, mulO]
  | cons x e ih =>
    intro i m pre w hi hie hm hp hw hd
    obtain ⟨m, rfl⟩ : ∃ k, m = k + 1 := ⟨m - 1, by omega⟩
    simp only [List.length_cons] at hie hm
    have hia : i < a.length := by omega
    have hx : a[i] = x ∧ a.drop (i + 1) = e := by
      rw [drop_get hia] at hi
      cases hi; exact ⟨rfl, rfl⟩
    have hxl : x < 1000000000 := by rw [← hx.1]; exact ha _ (List.getElem_mem hia)
    rw [noonbellref01_Nat_Mul.l5_eq, List.length_map, decide_eq_true (by omega), cond_true]
    have hrow := wmul_row (n := n) (m0 := m) (a := a) hb hl (l1 := l1) hxl hia hx.1 b 0 n pre (w ++ List.replicate (e.length + 1) 0) 0 rfl (by omega) (by omega) (by omega) (by simp; omega) (hd.app (fun d h => by have := List.eq_of_mem_replicate h; omega)) (by omega)
    simp only [List.length_cons]
    rw [show ((0 : Nat) : Int) = 0 from rfl] at hrow
    rw [hrow]
    obtain ⟨w', h1, h2, h3, h4⟩ := maRow_ok b9_2 w b (List.replicate e.length 0) x 0 hw hd hb hxl (by omega)
    rw [List.replicate_succ, h1]
    cases w' with
    | nil => simp at h2
    | cons d t =>
      obtain ⟨hd1, ht⟩ := h3.tail
      have := ih (i + 1) m (pre ++ [d]) t hx.2 (by omega) (by omega) (by simp [hp]) (by simpa using h2) ht
      rw [List.append_assoc] at this
      refine this.trans ?_
      simp only [mulO, h1, List.cons_append, List.append_assoc]
      rfl

theorem wmul_ev {x y : Nat} (h : (dg 1000000000 x).length + (dg 1000000000 y).length ≤ 1099511627775) : Ev En 132 [wL x, wL y] [wL (x * y)] := by
  refine Ev.of ((dg 1000000000 x).length + (dg 1000000000 y).length + 3) fun n hn => ?_
  rw [noonbellref01_Nat_Mul_eq, List.length_map, List.length_map]
  by_cases hx0 : x = 0
  · subst hx0
    rw [Nat.zero_mul]
    simp only [wL, dg_zero]
    rfl
  · by_cases hy0 : y = 0
    · subst hy0
      rw [Nat.mul_zero]
      have := wlen_pos hx0
      rw [show (((dg 1000000000 x).length : Int) == 0) = false from beq_eq_false_iff_ne.2 (by omega), cond_false]
      simp only [wL, dg_zero]
      rfl
    · have p1 := wlen_pos hx0
      have p2 := wlen_pos hy0
      rw [show (((dg 1000000000 x).length : Int) == 0) = false from beq_eq_false_iff_ne.2 (by omega), cond_false, show (((dg 1000000000 y).length : Int) == 0) = false from beq_eq_false_iff_ne.2 (by omega), cond_false, add_i64 (by omega), mk8 (by omega), Option.bind_some, bd_nat (Nat.le_refl _), Option.bind_some, rep64]
      have := wmul_outer (n := n) (dg_Dg b9_2 x) (dg_Dg b9_2 y) (by omega) (by omega) (l1 := []) (dg 1000000000 x) 0 n [] (List.replicate (dg 1000000000 y).length 0) rfl (by omega) (by omega) rfl (by simp) (fun d h => by have := List.eq_of_mem_replicate h; omega)
      rw [List.nil_append, List.replicate_append_replicate, List.nil_append, Nat.add_comm (dg 1000000000 y).length, show ((0 : Nat) : Int) = 0 from rfl] at this
      refine this.trans ?_
      obtain ⟨g1, g2, _⟩ := mulO_ok b9_2 (dg 1000000000 x) (List.replicate (dg 1000000000 y).length 0) (dg 1000000000 y) (by simp) (fun d h => by have := List.eq_of_mem_replicate h; omega) (dg_Dg b9_2 y) (dg_Dg b9_2 x)
      rw [List.replicate_append_replicate, Nat.add_comm (dg 1000000000 y).length] at g1 g2
      rw [← dg_vl b9_2 g2, g1, vl_zeros, vl_dg b9_2, vl_dg b9_2, Nat.zero_add]

/-! ### word, gcd -/
theorem wword_loop {n : Nat} {a : List Nat} (ha : Dg 1000000000 a) (hl : a.length ≤ 1099511627776) (hv : vl 1000000000 a < 18446744073709551616) : ∀ (i m : Nat), i ≤ a.length → i < m →
    noonbellref01_word.l3 n [] m [L64 a, .int .u64 ((vl 1000000000 (a.drop i) : Nat) : Int), .int .i64 ((i : Int) - 1)] = some [.int .u64 ((vl 1000000000 a : Nat) : Int)] := by
  intro i
  induction i with
  | zero =>
    intro m hi hm
    obtain ⟨m, rfl⟩ : ∃ k, m = k + 1 := ⟨m - 1, by omega⟩
    rw [noonbellref01_word.l3_eq, decide_eq_false (by omega), cond_false, List.drop_zero]
  | succ i ih =>
    intro m hi hm
    obtain ⟨m, rfl⟩ : ∃ k, m = k + 1 := ⟨m - 1, by omega⟩
    have hia : i < a.length := by omega
    have e0 : (((i + 1 : Nat) : Int) - 1) = (i : Int) := by omega
    have hs : vl 1000000000 (a.drop i) ≤ vl 1000000000 a := by
      have := vl_app 1000000000 (a.take i) (a.drop i)
      rw [List.take_append_drop] at this
      have h1 : 1 ≤ 1000000000 ^ (a.take i).length := Nat.one_le_pow _ _ (by omega)
      have h2 := Nat.mul_le_mul_right (vl 1000000000 (a.drop i)) h1
      omega
    have hd : vl 1000000000 (a.drop i) = a[i] + 1000000000 * vl 1000000000 (a.drop (i + 1)) := by rw [drop_get hia]; rfl
    have hx := ha _ (List.getElem_mem hia)
    rw [noonbellref01_word.l3_eq, e0, decide_eq_true (by omega), cond_true, List.length_map, ix_nat hia, Option.bind_some, d64_at hia, asInt_int, Option.bind_some, wrap_u64_id (by omega), show (1000000000 : Int) = ((1000000000 : Nat) : Int) from rfl, mul_u64 (by omega), add_u64 (by omega), show IntKind.wrap .i64 ((i : Int) - 1) = (i : Int) - 1 from wrap64_id (by omega) (by omega)]
    have := ih m (by omega) (by omega)
    rw [hd] at this
    rw [Nat.mul_comm, Nat.add_comm]
    exact this

theorem wword_run {n x : Nat} (hx : x < 18446744073709551616) (hn : (dg 1000000000 x).length < n) : evF En (n + 1) 167 [wL x] = some [.int .u64 (x : Int)] := by
  have hl : (dg 1000000000 x).length ≤ 3 := dg_len_le b9_2 (by omega)
  rw [noonbellref01_word_eq, List.length_map, show IntKind.wrap .i64 (((dg 1000000000 x).length : Int) - 1) = ((dg 1000000000 x).length : Int) - 1 from wrap64_id (by omega) (by omega)]
  have := wword_loop (n := n) (dg_Dg b9_2 x) (by omega) (by rw [vl_dg b9_2]; exact hx) (dg 1000000000 x).length n (Nat.le_refl _) (by omega)
  rw [List.drop_of_length_le (Nat.le_refl _), vl_dg b9_2] at this
  exact this

theorem wgcd_loop {n : Nat} : ∀ (y x m : Nat), y < m → noonbellref01_gcd.l1 n [] m [.int .u64 (x : Int), .int .u64 (y : Int)] = some [.int .u64 ((Nat.gcd x y : Nat) : Int)] := by
  intro y
  induction y using Nat.strongRecOn with
  | _ y ih =>
    intro x m hm
    obtain ⟨m, rfl⟩ : ∃ k, m = k + 1 := ⟨m - 1, by omega⟩
    rw [noonbellref01_gcd.l1_eq]
    rcases Nat.eq_zero_or_pos y with h0 | h0
    · subst h0
      rw [decide_eq_false (by omega), cond_false, Nat.gcd_zero_right]
    · have hlt := Nat.mod_lt x h0
      rw [decide_eq_true (by omega), cond_true, decide_eq_false (by omega), cond_false, show Int.tmod (x : Int) (y : Int) = ((x % y : Nat) : Int) from rfl, ih (x % y) hlt y m (by omega), Nat.gcd_comm y, ← Nat.gcd_rec, Nat.gcd_comm]

/-! ### DivMod -/
theorem wone_loop {n : Nat} {a : List Nat} {k : Nat} (ha : Dg 1000000000 a) (hk0 : 0 < k) (hk : k < 1000000000) (hl : a.length ≤ 1099511627776) (hn : a.length + k + 6 ≤ n) {l1 l2 : List FV} : ∀ (i m : Nat), i ≤ a.length → i < m →
    noonbellref01_one.l4 n [] m [L64 a, .list 1 l1, .list 1 l2, .int .i64 (k : Int), L64 (List.replicate i 0 ++ (divL 1000000000 k (a.drop i)).2), .int .i64 (((divL 1000000000 k (a.drop i)).1 : Nat) : Int), .int .i64 ((i : Int) - 1)] =
      some [L64 (tz (divL 1000000000 k a).2), wL (divL 1000000000 k a).1] := by
  intro i
  induction i with
  | zero =>
    intro m hi hm
    obtain ⟨m, rfl⟩ : ∃ k, m = k + 1 := ⟨m - 1, by omega⟩
    obtain ⟨n, rfl⟩ : ∃ k, n = k + 1 := ⟨n - 1, by omega⟩
    obtain ⟨g1, g2, g3, g4⟩ := divL_ok hk0 a ha
    have hof : evF En (n + 1) 65 [.int .u64 (((divL 1000000000 k a).1 : Nat) : Int)] = some [wL (divL 1000000000 k a).1] := by
      rw [noonbellref01_Of_eq, el0]
      have hl : (dg 1000000000 (divL 1000000000 k a).1).length ≤ 3 := dg_len_le b9_2 (by omega)
      have := wof_loop (n := n) (l0 := []) (divL 1000000000 k a).1 n [] (by omega) (by omega) (by simp; omega) (by simp; omega)
      exact this
    rw [noonbellref01_one.l4_eq, decide_eq_false (by omega), cond_false, List.drop_zero, List.replicate_zero, List.nil_append, wtrim_run (by omega) (by omega), wrap_u64_id (by omega), hof]
    simp only [Option.bind_some, List.getElem?_cons_zero, asLst_list]
  | succ i ih =>
    intro m hi hm
    obtain ⟨m, rfl⟩ : ∃ k, m = k + 1 := ⟨m - 1, by omega⟩
    have hia : i < a.length := by omega
    have hx := ha a[i] (List.getElem_mem hia)
    have hda : Dg 1000000000 (a.drop (i + 1)) := fun d hd => ha d (List.mem_of_mem_drop hd)
    obtain ⟨g1, g2, g3, g4⟩ := divL_ok hk0 (a.drop (i + 1)) hda
    have ih := ih m (by omega) (by omega)
    rw [drop_get hia] at ih
    simp only [divL] at ih
    generalize (divL 1000000000 k (a.drop (i + 1))).1 = r at g1 g2 ih ⊢
    generalize (divL 1000000000 k (a.drop (i + 1))).2 = q at g1 g3 g4 ih ⊢
    have hq : q.length = a.length - (i + 1) := by rw [g4, List.length_drop]
    have hlen : (List.replicate (i + 1) 0 ++ q).length = a.length := by simp [hq]; omega
    have e0 : (((i + 1 : Nat) : Int) - 1) = (i : Int) := by omega
    have e2 : Int.tdiv ((r * 1000000000 + a[i] : Nat) : Int) (k : Int) = (((r * 1000000000 + a[i]) / k : Nat) : Int) := rfl
    have e3 : Int.tmod ((r * 1000000000 + a[i] : Nat) : Int) (k : Int) = (((r * 1000000000 + a[i]) % k : Nat) : Int) := rfl
    have hdig : (r * 1000000000 + a[i]) / k < 1000000000 := by
      rw [Nat.div_lt_iff_lt_mul hk0]
      have : (r + 1) * 1000000000 ≤ k * 1000000000 := Nat.mul_le_mul_right _ g2
      omega
    rw [noonbellref01_one.l4_eq, e0, decide_eq_true (by omega), cond_true, show decide ((k : Int) = 0) = false from decide_eq_false (by omega)]
    simp only [List.length_map, hlen, ix_nat hia, Option.bind_some, d64_at hia, asInt_int, cond_false]
    rw [show (1000000000 : Int) = ((1000000000 : Nat) : Int) from rfl, mul_i64 (by omega), add_i64 (by omega), e2, e3, wrap_i64_nat (by omega)]
    have hset : List.set ((List.replicate (i + 1) 0 ++ q).map d64) i (.int .i64 (((r * 1000000000 + a[i]) / k : Nat) : Int)) = (List.replicate i 0 ++ ((r * 1000000000 + a[i]) / k) :: q).map d64 := by
      have hr : List.replicate (i + 1) 0 ++ q = List.replicate i 0 ++ (0 :: q) := by rw [List.replicate_succ', List.append_assoc]; rfl
      rw [hr, set64 (by simp)]
    rw [hset, show IntKind.wrap .i64 ((i : Int) - 1) = (i : Int) - 1 from wrap64_id (by omega) (by omega)]
    exact ih

theorem div_key {x k q r : Nat} (hk : 0 < k) (e : x = k * q + r) (hr : r < k) : x / k = q ∧ x % k = r := by
  subst e
  exact ⟨by rw [Nat.mul_add_div hk, Nat.div_eq_of_lt hr, Nat.add_zero], by rw [Nat.mul_add_mod, Nat.mod_eq_of_lt hr]⟩

theorem wone_run {n x k : Nat} (hk0 : 0 < k) (hk : k < 1000000000) (hx : (dg 1000000000 x).length ≤ 1099511627776) (hn : (dg 1000000000 x).length + k + 6 ≤ n) : evF En (n + 1) 209 [wL x, .int .i64 (k : Int)] = some [wL (x / k), wL (x % k)] := by
  rw [noonbellref01_one_eq, List.length_map, mk8 (by omega), Option.bind_some, bd_nat (Nat.le_refl _), Option.bind_some, rep64, show IntKind.wrap .i64 (((dg 1000000000 x).length : Int) - 1) = ((dg 1000000000 x).length : Int) - 1 from wrap64_id (by omega) (by omega)]
  have := wone_loop (n := n) (dg_Dg b9_2 x) hk0 hk hx hn (l1 := []) (l2 := []) (dg 1000000000 x).length n (Nat.le_refl _) (by omega)
  rw [List.drop_of_length_le (Nat.le_refl _)] at this
  simp only [divL, List.append_nil] at this
  rw [show (((0 : Nat) : Int)) = 0 from rfl] at this
  rw [this]
  obtain ⟨g1, g2, g3, g4⟩ := divL_ok hk0 (dg 1000000000 x) (dg_Dg b9_2 x)
  rw [vl_dg b9_2] at g1
  rw [← dg_vl b9_2 g3]
  obtain ⟨h1, h2⟩ := div_key hk0 g1 g2
  rw [h1, h2]

theorem small2_run {n x d : Nat} (hd : d < 1000000000) (hx : (dg 1000000000 x).length ≤ 1099511627775) (hn : (dg 1000000000 x).length + 3 ≤ n) : evF En (n + 1) 210 [wL x, .int .i64 (d : Int)] = some [wL (x * 1000000000 + d)] := by
  obtain ⟨n, rfl⟩ : ∃ k, n = k + 1 := ⟨n - 1, by omega⟩
  rw [noonbellref01_small2_eq, el1, List.length_map, ble_true (by simp; omega), cond_true, show [FV.int .i64 (d : Int)] ++ (dg 1000000000 x).map d64 = (d :: dg 1000000000 x).map d64 from rfl, wtrim_run (by simp; omega) (by simp; omega)]
  simp only [Option.bind_some, List.getElem?_cons_zero, asLst_list]
  have hD : Dg 1000000000 (d :: dg 1000000000 x) := Dg.cons hd (dg_Dg b9_2 x)
  rw [← dg_vl b9_2 hD]
  have : vl 1000000000 (d :: dg 1000000000 x) = x * 1000000000 + d := by simp only [vl]; rw [vl_dg b9_2]; omega
  rw [this]

theorem times_loop {n x y : Nat} (hy0 : 0 < y) (hx : (dg 1000000000 x).length ≤ 549755813000) (hy : (dg 1000000000 y).length ≤ 549755813000) (hn : (dg 1000000000 x).length + (dg 1000000000 y).length + 6 ≤ n) : ∀ (k lo hi m : Nat), hi - lo = k → k < m → lo ≤ x / y → x / y ≤ hi → hi ≤ 999999999 →
    noonbellref01_times.l3 n [] m [wL x, wL y, .int .i64 (lo : Int), .int .i64 (hi : Int)] = some [.int .i64 ((x / y : Nat) : Int)] := by
  obtain ⟨n, rfl⟩ : ∃ k, n = k + 1 := ⟨n - 1, by omega⟩
  intro k
  induction k using Nat.strongRecOn with
  | _ k ih =>
    intro lo hi m hk hm h1 h2 h3
    obtain ⟨m, rfl⟩ : ∃ k, m = k + 1 := ⟨m - 1, by omega⟩
    rw [noonbellref01_times.l3_eq]
    by_cases hlt : lo < hi
    · have hmid : Int.tdiv ((lo + hi + 1 : Nat) : Int) 2 = (((lo + hi + 1) / 2 : Nat) : Int) := rfl
      have hml : (dg 1000000000 (y * ((lo + hi + 1) / 2))).length ≤ (dg 1000000000 y).length + 1 := by
        apply dg_len_le b9_2
        rw [Nat.pow_succ]
        exact Nat.mul_lt_mul'' (dg_lt_pow b9_2 y) (by omega)
      rw [decide_eq_true (by omega), cond_true, add_i64 (by omega), wrap_succ (by omega), hmid, wrap_i64_nat (by omega), small0_run (by omega) (by omega) (by omega)]
      simp only [Option.bind_some, List.getElem?_cons_zero, asLst_list]
      rw [wcmp_run (by omega) (by omega) (by omega)]
      simp only [Option.bind_some, List.getElem?_cons_zero, asInt_int]
      by_cases hle : y * ((lo + hi + 1) / 2) ≤ x
      · have : (lo + hi + 1) / 2 ≤ x / y := by rw [Nat.le_div_iff_mul_le hy0, Nat.mul_comm]; exact hle
        rw [decide_eq_true (by unfold cmpN; split <;> (try split) <;> omega), cond_true]
        exact ih (hi - (lo + hi + 1) / 2) (by omega) ((lo + hi + 1) / 2) hi m rfl (by omega) this h2 h3
      · have : x / y < (lo + hi + 1) / 2 := by rw [Nat.div_lt_iff_lt_mul hy0, Nat.mul_comm]; omega
        rw [decide_eq_false (by unfold cmpN; rw [if_neg (by omega), if_pos (by omega)]; omega), cond_false, show IntKind.wrap .i64 ((((lo + hi + 1) / 2 : Nat) : Int) - 1) = (((lo + hi + 1) / 2 - 1 : Nat) : Int) by rw [wrap64_id (by omega) (by omega)]; omega]
        exact ih ((lo + hi + 1) / 2 - 1 - lo) (by omega) lo ((lo + hi + 1) / 2 - 1) m rfl (by omega) h1 (by omega) (by omega)
    · rw [decide_eq_false (by omega), cond_false]
      have : lo = x / y := by omega
      rw [this]

theorem times_run {n x y : Nat} (hy0 : 0 < y) (hxy : x / y < 1000000000) (hx : (dg 1000000000 x).length ≤ 549755813000) (hy : (dg 1000000000 y).length ≤ 549755813000) (hn : (dg 1000000000 x).length + (dg 1000000000 y).length + 1000000006 ≤ n) :
    evF En (n + 1) 211 [wL x, wL y] = some [.int .i64 ((x / y : Nat) : Int)] := by
  rw [noonbellref01_times_eq]
  exact times_loop (n := n) hy0 hx hy (by omega) 999999999 0 999999999 n rfl (by omega) (Nat.zero_le _) (by omega) (by omega)

theorem wdiv_loop {n : Nat} {a : List Nat} {y : Nat} (ha : Dg 1000000000 a) (hy0 : 0 < y) (hl : a.length ≤ 549755812000) (hyl : (dg 1000000000 y).length ≤ 549755812000) (hn : a.length + (dg 1000000000 y).length * 4 + 1000000026 ≤ n) {l2 l3 : List FV} : ∀ (i m : Nat), i ≤ a.length → i < m →
    noonbellref01_Nat_DivMod.l9 n [] m [L64 a, wL y, .list 1 l2, .list 1 l3, wL (divL 1000000000 y (a.drop i)).1, L64 (List.replicate i 0 ++ (divL 1000000000 y (a.drop i)).2), .int .i64 ((i : Int) - 1)] =
      some [L64 (tz (divL 1000000000 y a).2), wL (divL 1000000000 y a).1, .int .i64 0] := by
  obtain ⟨n, rfl⟩ : ∃ k, n = k + 1 := ⟨n - 1, by omega⟩
  intro i
  induction i with
  | zero =>
    intro m hi hm
    obtain ⟨m, rfl⟩ : ∃ k, m = k + 1 := ⟨m - 1, by omega⟩
    obtain ⟨g1, g2, g3, g4⟩ := divL_ok hy0 a ha
    rw [noonbellref01_Nat_DivMod.l9_eq, decide_eq_false (by omega), cond_false, List.drop_zero, List.replicate_zero, List.nil_append, wtrim_run (by omega) (by omega)]
    simp only [Option.bind_some, List.getElem?_cons_zero, asLst_list]
  | succ i ih =>
    intro m hi hm
    obtain ⟨m, rfl⟩ : ∃ k, m = k + 1 := ⟨m - 1, by omega⟩
    have hia : i < a.length := by omega
    have hx := ha a[i] (List.getElem_mem hia)
    have hda : Dg 1000000000 (a.drop (i + 1)) := fun d hd => ha d (List.mem_of_mem_drop hd)
    obtain ⟨g1, g2, g3, g4⟩ := divL_ok hy0 (a.drop (i + 1)) hda
    have ih := ih m (by omega) (by omega)
    rw [drop_get hia] at ih
    simp only [divL] at ih
    generalize (divL 1000000000 y (a.drop (i + 1))).1 = r at g1 g2 ih ⊢
    generalize (divL 1000000000 y (a.drop (i + 1))).2 = q at g1 g3 g4 ih ⊢
    have hq : q.length = a.length - (i + 1) := by rw [g4, List.length_drop]
    have hlen : (List.replicate (i + 1) 0 ++ q).length = a.length := by simp [hq]; omega
    have e0 : (((i + 1 : Nat) : Int) - 1) = (i : Int) := by omega
    have hr1 := wlen_mono (Nat.le_of_lt g2)
    have hr2 : (dg 1000000000 (r * 1000000000 + a[i])).length ≤ (dg 1000000000 y).length + 1 := by
      apply dg_len_le b9_2
      have h1 := dg_lt_pow b9_2 y
      have : (r + 1) * 1000000000 ≤ 1000000000 ^ (dg 1000000000 y).length * 1000000000 := Nat.mul_le_mul_right _ (by omega)
      rw [Nat.pow_succ]
      omega
    have hdig : (r * 1000000000 + a[i]) / y < 1000000000 := by
      rw [Nat.div_lt_iff_lt_mul hy0]
      have : (r + 1) * 1000000000 ≤ y * 1000000000 := Nat.mul_le_mul_right _ g2
      omega
    have hset : List.set ((List.replicate (i + 1) 0 ++ q).map d64) i (.int .i64 (((r * 1000000000 + a[i]) / y : Nat) : Int)) = (List.replicate i 0 ++ ((r * 1000000000 + a[i]) / y) :: q).map d64 := by
      have hr : List.replicate (i + 1) 0 ++ q = List.replicate i 0 ++ (0 :: q) := by rw [List.replicate_succ', List.append_assoc]; rfl
      rw [hr, set64 (by simp)]
    have hlen2 : (List.replicate i 0 ++ ((r * 1000000000 + a[i]) / y) :: q).length = a.length := by simp [hq]; omega
    have hml : y * ((r * 1000000000 + a[i]) / y) ≤ r * 1000000000 + a[i] := Nat.mul_div_le _ _
    rw [noonbellref01_Nat_DivMod.l9_eq, e0, decide_eq_true (by omega), cond_true, List.length_map, ix_nat hia, Option.bind_some, d64_at hia, asInt_int, Option.bind_some, small2_run (by omega) (by omega) (by omega), Option.bind_some, List.getElem?_cons_zero, asLst_list, Option.bind_some, times_run hy0 hdig (by omega) (by omega) (by omega), Option.bind_some, List.getElem?_cons_zero, asInt_int, Option.bind_some,
      List.length_map, hlen, ix_nat hia, Option.bind_some, hset, List.length_map, hlen2, ix_nat hia, Option.bind_some, mid64 (by simp), asInt_int, Option.bind_some, small0_run (by omega) (by omega) (by omega), Option.bind_some, List.getElem?_cons_zero, asLst_list, Option.bind_some,
      wsub_run hml (by omega) (by omega), Option.bind_some, List.getElem?_cons_zero, asLst_list, Option.bind_some, List.getElem?_cons_succ, List.getElem?_cons_zero, asInt_int, Option.bind_some, show IntKind.wrap .i64 ((i : Int) - 1) = (i : Int) - 1 from wrap64_id (by omega) (by omega)]
    have hmod : r * 1000000000 + a[i] - y * ((r * 1000000000 + a[i]) / y) = (r * 1000000000 + a[i]) % y := by
      have := Nat.div_add_mod (r * 1000000000 + a[i]) y
      omega
    rw [hmod]
    exact ih

theorem wdivmod_ev {x y : Nat} (hy0 : y ≠ 0) (hx : (dg 1000000000 x).length ≤ 549755812000) (hyl : (dg 1000000000 y).length ≤ 549755812000) : Ev En 168 [wL x, wL y] [wL (x / y), wL (x % y), .int .i64 0] := by
  have p := wlen_pos hy0
  refine Ev.of ((dg 1000000000 x).length + (dg 1000000000 y).length * 4 + y + 1000000030) fun n hn => ?_
  obtain ⟨n, rfl⟩ : ∃ k, n = k + 1 := ⟨n - 1, by omega⟩
  rw [noonbellref01_Nat_DivMod_eq, List.length_map, List.length_map, show (((dg 1000000000 y).length : Int) == 0) = false from beq_eq_false_iff_ne.2 (by omega), cond_false]
  by_cases h1 : (dg 1000000000 y).length = 1
  · have hy9 : y < 1000000000 := by have := dg_lt_pow b9_2 y; rw [h1] at this; simpa using this
    have e : dg 1000000000 y = [y] := by
      rw [dg_pos b9_2 hy0, Nat.mod_eq_of_lt hy9, Nat.div_eq_of_lt hy9, dg_zero]
    rw [h1, show (((1 : Nat) : Int) == 1) = true from rfl, cond_true, e]
    rw [show ix (0 : Int) 1 = some 0 from rfl, Option.bind_some, show at' ([y].map d64) 0 0 = some (.int .i64 (y : Int)) from rfl, asInt_int, Option.bind_some, wone_run (by omega) hy9 (by omega) (by omega)]
    simp only [Option.bind_some, List.getElem?_cons_zero, List.getElem?_cons_succ, asLst_list]
  · rw [show (((dg 1000000000 y).length : Int) == 1) = false from beq_eq_false_iff_ne.2 (by omega), cond_false, mk8 (by omega), Option.bind_some, bd_nat (Nat.le_refl _), Option.bind_some, rep64, show IntKind.wrap .i64 (((dg 1000000000 x).length : Int) - 1) = ((dg 1000000000 x).length : Int) - 1 from wrap64_id (by omega) (by omega)]
    have := wdiv_loop (n := n + 1) (dg_Dg b9_2 x) (show 0 < y by omega) hx hyl (by omega) (l2 := []) (l3 := []) (dg 1000000000 x).length (n + 1) (Nat.le_refl _) (by omega)
    rw [List.drop_of_length_le (Nat.le_refl _)] at this
    simp only [divL, List.append_nil, wL, dg_zero, List.map_nil] at this
    refine Eq.trans this ?_
    obtain ⟨g1, g2, g3, g4⟩ := divL_ok (show 0 < y by omega) (dg 1000000000 x) (dg_Dg b9_2 x)
    rw [vl_dg b9_2] at g1
    rw [← dg_vl b9_2 g3]
    obtain ⟨h1, h2⟩ := div_key (show 0 < y by omega) g1 g2
    rw [h1, h2]

theorem wdivmod_zero {x : Nat} : Ev En 168 [wL x, .list 1 []] [.list 1 [], .list 1 [], .int .i64 12] :=
  Ev.of 0 fun n hn => by rw [noonbellref01_Nat_DivMod_eq]; rfl

/-! ### Gcd -/
theorem w_small {x : Nat} (h : (dg 1000000000 x).length ≤ 2) : x < 18446744073709551616 := by
  have h1 := dg_lt_pow b9_2 x
  have h2 : 1000000000 ^ (dg 1000000000 x).length ≤ 1000000000 ^ 2 := Nat.pow_le_pow_right (by omega) h
  omega

theorem wgcdl : ∀ (y x : Nat), (dg 1000000000 x).length ≤ 549755812000 → (dg 1000000000 y).length ≤ 549755812000 → ∃ n0, ∀ n m l2, n0 ≤ n → n0 ≤ m →
    noonbellref01_Nat_Gcd.l1 n [] m [wL x, wL y, .list 1 l2] = some [wL (Nat.gcd x y)] := by
  intro y
  induction y using Nat.strongRecOn with
  | _ y ih =>
    intro x hx hy
    rcases Nat.eq_zero_or_pos y with h0 | h0
    · subst h0
      refine ⟨1, fun n m l2 hn hm => ?_⟩
      obtain ⟨m, rfl⟩ : ∃ k, m = k + 1 := ⟨m - 1, by omega⟩
      rw [noonbellref01_Nat_Gcd.l1_eq, List.length_map, dg_zero, decide_eq_false (by simp), cond_false, Nat.gcd_zero_right]
    · have hlt := Nat.mod_lt x h0
      have hl0 := wlen_pos (show y ≠ 0 by omega)
      by_cases hw : (dg 1000000000 x).length ≤ 2 ∧ (dg 1000000000 y).length ≤ 2
      · have sx := w_small hw.1
        have sy := w_small hw.2
        have hg : Nat.gcd x y < 18446744073709551616 := Nat.lt_of_le_of_lt (Nat.gcd_le_right x h0) sy
        obtain ⟨n3, h3⟩ := wof_ev hg
        refine ⟨n3 + y + 8, fun n m l2 hn hm => ?_⟩
        obtain ⟨m, rfl⟩ : ∃ k, m = k + 1 := ⟨m - 1, by omega⟩
        obtain ⟨n, rfl⟩ : ∃ k, n = k + 1 := ⟨n - 1, by omega⟩
        rw [noonbellref01_Nat_Gcd.l1_eq, List.length_map, List.length_map, decide_eq_true (by omega), cond_true, decide_eq_true (by omega), cond_true, decide_eq_true (by omega), cond_true, wword_run sx (by omega), Option.bind_some, List.getElem?_cons_zero, asInt_int, Option.bind_some,
          wword_run sy (by omega), Option.bind_some, List.getElem?_cons_zero, asInt_int, Option.bind_some, noonbellref01_gcd_eq, wgcd_loop y x n (by omega), Option.bind_some, List.getElem?_cons_zero, asInt_int, Option.bind_some, h3 _ (by omega), Option.bind_some, List.getElem?_cons_zero, asLst_list, Option.bind_some]
      · obtain ⟨n1, h1⟩ := wdivmod_ev (x := x) (y := y) (by omega) hx hy
        have hm1 := wlen_mono (Nat.le_of_lt hlt)
        obtain ⟨n2, h2⟩ := ih (x % y) hlt y hy (by omega)
        refine ⟨n1 + n2 + 1, fun n m l2 hn hm => ?_⟩
        obtain ⟨m, rfl⟩ : ∃ k, m = k + 1 := ⟨m - 1, by omega⟩
        have key : ∀ l2, (evF En n 168 [wL x, wL y]).bind (fun r4 => (asLst 1 (r4[0]?)).bind fun v5 => (asLst 1 (r4[1]?)).bind fun v6 => (asInt .i64 (r4[2]?)).bind fun n7 => noonbellref01_Nat_Gcd.l1 n [] m [wL y, .list 1 v6, .list 1 l2]) = some [wL (Nat.gcd x y)] := fun l2 => by
          rw [h1 _ (by omega), Option.bind_some, List.getElem?_cons_zero, asLst_list, Option.bind_some, List.getElem?_cons_succ, List.getElem?_cons_zero, asLst_list, Option.bind_some, List.getElem?_cons_succ, List.getElem?_cons_succ, List.getElem?_cons_zero, asInt_int, Option.bind_some, h2 n m l2 (by omega) (by omega), Nat.gcd_comm y, ← Nat.gcd_rec, Nat.gcd_comm]
        rw [noonbellref01_Nat_Gcd.l1_eq, List.length_map, List.length_map, decide_eq_true (by omega), cond_true]
        by_cases ha : (dg 1000000000 x).length ≤ 2
        · rw [decide_eq_true (by omega), cond_true, decide_eq_false (by omega), cond_false]
          exact key l2
        · rw [decide_eq_false (by omega), cond_false]
          exact key l2

theorem wgcd_ev {x y : Nat} (hx : (dg 1000000000 x).length ≤ 549755812000) (hy : (dg 1000000000 y).length ≤ 549755812000) : Ev En 130 [wL x, wL y] [wL (Nat.gcd x y)] := by
  obtain ⟨n0, h⟩ := wgcdl y x hx hy
  refine Ev.of n0 fun n hn => ?_
  rw [noonbellref01_Nat_Gcd_eq]
  exact h n n [] hn hn

end Rf
