/- Texts of this work put together: Sums. -/
import Derived.Test.YtebaohjeodeaoaaGreatDoorQInv

section
/- LedgerSums: whatever is posted, all balances sum to nothing; what is refused changes none. -/
set_option linter.unusedSimpArgs false
set_option linter.unusedVariables false
set_option maxHeartbeats 2000000
namespace Rf
open Go

theorem tL_at0 {S : LS} {i : Nat} (h : i < S.length) : asStr (at' ((tL S).map enF) i 0) = some (txt (S[i]).1) := by
  rw [enF_at0 (by simpa [tL] using h)]; simp [tL]
theorem tL_at1 {S : LS} {i : Nat} (h : i < S.length) : asStr (at' ((tL S).map enF) i 1) = some (txt (ztext (S[i]).2)) := by
  rw [enF_at1 (by simpa [tL] using h)]; simp [tL]
theorem tL_len (S : LS) : ((tL S).map enF).length = S.length := by simp [tL]

theorem take_sum {S : LS} {j : Nat} (h : j < S.length) : lsum (S.take (j + 1)) = lsum (S.take j) + (S[j]).2 := by
  rw [List.take_add_one, List.getElem?_eq_getElem h, Option.toList_some]
  have : ∀ (l : LS) (p : LK × Int), lsum (l ++ [p]) = lsum l + p.2 := by
    intro l p
    induction l with
    | nil => simp [lsum]
    | cons q l ih => simp only [lsum, List.map_cons, List.foldr_cons, List.cons_append] at ih ⊢; omega
  exact this _ _

theorem asc_lt {S : LS} (hA : Asc S) {j : Nat} (h : j + 1 < S.length) : (S[j]).1 < (S[j + 1]).1 := by
  have := List.pairwise_iff_getElem.1 hA j (j + 1) (by omega) h (by omega)
  exact this

theorem sums_inner {n m0 : Nat} {ls : List EL} {S : LS} {c k i : Int} {a K : Nat} (hI : Inv S a K) (ha : a ≤ 15000) (hK : K + 50 ≤ 1000000) : ∀ (d j m : Nat), j + d = S.length → d < m →
    noonbelllaw19_LedgerSums.l14 (n + 2) [m0] m [zb (lsum (S.take j)), wl (lsum (S.take j)), .list 1 (ls.map tF), .list 3 (stE S), .int .i64 c, .int .i64 k, .int .i64 i, .list 2 ((tL S).map enF), .int .i64 (j : Int)] =
      noonbelllaw19_LedgerSums.l5 (n + 2) [] m0 [.list 1 (ls.map tF), .list 3 (stE S), .int .i64 c, .int .i64 k, .int .i64 (IntKind.wrap .i64 (i + 1))]
  | 0, j, m, hj, hm => by
    obtain ⟨m, rfl⟩ : ∃ x, m = x + 1 := ⟨m - 1, by omega⟩
    have f1 := e2_signR (n := n + 1) (z := lsum (S.take j))
    rw [List.take_of_length_le (by omega), hI.sum] at f1 ⊢
    rw [noonbelllaw19_LedgerSums.l14_eq, tL_len, decide_eq_false (by omega), cond_false]
    have h0 : ((Int.sign 0) != 0) = false := rfl
    try simp (disch := omega) only [f1, Option.bind_some, List.getElem?_cons_zero, List.getElem?_cons_succ, asLst_list, asInt_int, asBool_bool, asStr_str, cond_true, cond_false]
    try simp (disch := omega) only [h0, Option.bind_some, List.getElem?_cons_zero, List.getElem?_cons_succ, asLst_list, asInt_int, asBool_bool, asStr_str, cond_true, cond_false]
  | d + 1, j, m, hj, hm => by
    obtain ⟨m, rfl⟩ : ∃ x, m = x + 1 := ⟨m - 1, by omega⟩
    have hlt : j < S.length := by omega
    have hl2 := hI.lim2 ha
    have hsl : S.length ≤ 1000000 := by have := hI.len; omega
    have hz : (S[j]).2.natAbs ≤ 2 ^ (K + 21) := hl2 _ (List.getElem_mem hlt)
    have h22 : ∀ x : Nat, x ≤ 2 ^ (K + 21) → x < 2 ^ (K + 41) := fun x hx => by
      have h1 : 2 ^ (K + 41) = 2 ^ (K + 21) * 1048576 := Nat.pow_add 2 (K + 21) 20
      have h2 : 0 < 2 ^ (K + 21) := Nat.two_pow_pos _
      rw [h1]
      generalize (2 : Nat) ^ (K + 21) = P at *
      omega
    have hsum : (lsum (S.take j)).natAbs < 2 ^ (K + 41) := by
      have h1 := lsum_lim (S := S.take j) (M := 2 ^ (K + 21)) fun p hp => hl2 p (List.mem_of_mem_take hp)
      have h2 : 2 ^ (K + 41) = 2 ^ (K + 21) * 1048576 := Nat.pow_add 2 (K + 21) 20
      have h3 : (S.take j).length * 2 ^ (K + 21) ≤ 1000000 * 2 ^ (K + 21) := Nat.mul_le_mul_right _ (by rw [List.length_take]; omega)
      have h4 : 0 < 2 ^ (K + 21) := Nat.two_pow_pos _
      rw [h2]
      generalize (2 : Nat) ^ (K + 21) = P at *
      omega
    have hzt : (ztext (S[j]).2).length ≤ 1000000000 := by
      have := ztext_len (h22 _ hz)
      omega
    have p1 : pz (txt (ztext (S[j]).2)).data.toList = some (S[j]).2 := by rw [txt_data]; exact pz_some.2 rfl
    have f1 := e2_parseR (n := n + 1) p1 (by rw [txt_size]; exact hzt)
    have f2 := e2_bal (n := n) (c := c) (k := k) (K := K + 21) (by omega) hl2 (S[j]).1
    rw [lget_at hI.asc j hlt] at f2
    have f3 := e2_addR (n := n + 1) (k := K + 41) (z := lsum (S.take j)) (w := (S[j]).2) (by omega) hsum (h22 _ hz)
    have f4 := take_sum hlt
    have ix1 : ix (j : Int) ((tL S).map enF).length = some j := ix_nat (by rw [tL_len]; exact hlt)
    have h0 : ((0 : Int) != 0) = false := rfl
    have ih := sums_inner (n := n) (m0 := m0) (ls := ls) (c := c) (k := k) (i := i) hI ha hK d (j + 1) m (by omega) (by omega)
    rw [f4] at ih
    rw [noonbelllaw19_LedgerSums.l14_eq, decide_eq_true (by rw [tL_len]; omega : (j : Int) < (((tL S).map enF).length : Int)), cond_true]
    simp only [ix1, Option.bind_some, tL_at1 hlt, tL_at0 hlt]
    try simp (disch := omega) only [f1, Option.bind_some, List.getElem?_cons_zero, List.getElem?_cons_succ, asLst_list, asInt_int, asBool_bool, asStr_str, cond_true, cond_false]
    try simp (disch := omega) only [h0, Option.bind_some, List.getElem?_cons_zero, List.getElem?_cons_succ, asLst_list, asInt_int, asBool_bool, asStr_str, cond_true, cond_false]
    try simp (disch := omega) only [f2, Option.bind_some, List.getElem?_cons_zero, List.getElem?_cons_succ, asLst_list, asInt_int, asBool_bool, asStr_str, cond_true, cond_false]
    try simp (disch := omega) only [toList_eq, decide_true, Bool.not_true, Option.bind_some, List.getElem?_cons_zero, List.getElem?_cons_succ, asLst_list, asInt_int, asBool_bool, asStr_str, cond_true, cond_false]
    by_cases hj0 : j = 0
    · subst hj0
      rw [decide_eq_false (by omega), cond_false]
      try simp (disch := omega) only [f3, Option.bind_some, List.getElem?_cons_zero, List.getElem?_cons_succ, asLst_list, asInt_int, asBool_bool, asStr_str, cond_true, cond_false]
      rw [wrap_succ (by omega)]
      exact ih
    · obtain ⟨j, rfl⟩ : ∃ x, j = x + 1 := ⟨j - 1, by omega⟩
      have ix2 : ix (IntKind.wrap .i64 (((j + 1 : Nat) : Int) - 1)) ((tL S).map enF).length = some j := by
        rw [show IntKind.wrap .i64 (((j + 1 : Nat) : Int) - 1) = (j : Int) by rw [wrap64_id (by omega) (by omega)]; omega]
        exact ix_nat (by rw [tL_len]; omega)
      have hlt0 : j < S.length := by omega
      have hcmp : Op.bytesLess (txt (S[j]).1).toList (txt (S[j + 1]).1).toList = true := by rw [bl_txt]; exact decide_eq_true (asc_lt hI.asc hlt)
      rw [decide_eq_true (by omega : ((j + 1 : Nat) : Int) > 0), cond_true]
      simp only [ix2, Option.bind_some, tL_at0 hlt0, hcmp, Bool.not_true, cond_false]
      try simp (disch := omega) only [f3, Option.bind_some, List.getElem?_cons_zero, List.getElem?_cons_succ, asLst_list, asInt_int, asBool_bool, asStr_str, cond_true, cond_false]
      rw [wrap_succ (by omega)]
      exact ih

theorem sums_outer {n : Nat} {ls : List EL} {K : Nat} (hn : 300 ≤ n) (hK1 : 16384 ≤ K) (hK : K + 50 ≤ 1000000) (hls : ls.length ≤ 4096) (hsm : ∀ l, l ∈ ls → SmT l) (hn2 : 300000 ≤ n) : ∀ (d i m : Nat) (S : LS) (c k : Int), i + d = ls.length → d < m → Inv S i K → 0 ≤ k → k ≤ i →
    noonbelllaw19_LedgerSums.l5 (n + 2) [] m [.list 1 (ls.map tF), .list 3 (stE S), .int .i64 c, .int .i64 k, .int .i64 (i : Int)] = some [.bool true]
  | 0, i, m, S, c, k, hi, hm, hI, hk0, hk => by
    obtain ⟨m, rfl⟩ : ∃ x, m = x + 1 := ⟨m - 1, by omega⟩
    have f1 := e2_len (n + 1) (stE S) c k
    have f2 := e2_bal (n := n) (c := c) (k := k) (K := K + 21) (by omega) (hI.lim2 (by omega)) []
    rw [hI.empty] at f2
    have f2' : evF En2 (n + 2) 28 [.list 3 (stE S), .int .i64 c, .int .i64 k, .str { data := #[] }] = _ := f2
    rw [noonbelllaw19_LedgerSums.l5_eq, List.length_map, decide_eq_false (by omega), cond_false]
    try simp (disch := omega) only [f1, Option.bind_some, List.getElem?_cons_zero, List.getElem?_cons_succ, asLst_list, asInt_int, asBool_bool, asStr_str, cond_true, cond_false]
    try simp (disch := omega) only [decide_eq_true (by omega : k ≤ (ls.length : Int)), Option.bind_some, List.getElem?_cons_zero, List.getElem?_cons_succ, asLst_list, asInt_int, asBool_bool, asStr_str, cond_true, cond_false]
    try simp (disch := omega) only [f2', Option.bind_some, List.getElem?_cons_zero, List.getElem?_cons_succ, asLst_list, asInt_int, asBool_bool, asStr_str, cond_true, cond_false]
    try simp (disch := omega) only [txt_z0, toList_eq, decide_true, Option.bind_some, List.getElem?_cons_zero, List.getElem?_cons_succ, asLst_list, asInt_int, asBool_bool, asStr_str, cond_true, cond_false]
  | d + 1, i, m, S, c, k, hi, hm, hI, hk0, hk => by
    obtain ⟨m, rfl⟩ : ∃ x, m = x + 1 := ⟨m - 1, by omega⟩
    have hlt : i < ls.length := by omega
    have hs := hsm _ (List.getElem_mem hlt)
    have hb := hs.bd (K := K) hK1
    have hL := hI.led (by omega) (by omega)
    have t1 := e2_trial (n := n + 1) (c := c) (k := k) hL.up
    have f0 := e2_ofR (n := n + 1) (z := 0) (by omega) (by omega)
    have ix1 : ix (i : Int) (ls.map tF).length = some i := ix_nat (by simpa using hlt)
    rw [noonbelllaw19_LedgerSums.l5_eq, decide_eq_true (by simpa using hlt : (i : Int) < ((ls.map tF).length : Int)), cond_true]
    simp only [ix1, Option.bind_some, tF_at hlt]
    cases hr : rdL (ls[i]) with
    | inl e =>
      have hp := post_bad (n := n + 1) (c := c) hL hk0 (by omega) hs.small hr
      have he := rdL_ne hr
      have hsame := e2_same (n := n + 1) (l := tL S) (by have := hI.len; simp [tL]; omega)
      have e1 : (e != 0) = true := by simpa using he
      have e2 : (e == 0) = false := by simpa using he
      have hin := sums_inner (n := n) (m0 := m) (ls := ls) (c := c) (k := k) (i := (i : Int)) hI (by omega) hK S.length 0 (n + 2) (by omega) (by have := hI.len; omega)
      rw [List.take_zero, show lsum [] = 0 from rfl, show ((0 : Nat) : Int) = 0 from rfl] at hin
      rw [t1, Option.bind_some]
      simp only [List.getElem?_cons_zero, List.getElem?_cons_succ, asLst_list, asInt_int, asBool_bool, asStr_str, Option.bind_some]
      rw [hp, Option.bind_some]
      simp only [List.getElem?_cons_zero, List.getElem?_cons_succ, asLst_list, asInt_int, asBool_bool, asStr_str, Option.bind_some]
      rw [t1, Option.bind_some]
      simp only [List.getElem?_cons_zero, List.getElem?_cons_succ, asLst_list, asInt_int, asBool_bool, asStr_str, Option.bind_some]
      rw [e1, cond_true]
      rw [hsame, Option.bind_some]
      simp only [List.getElem?_cons_zero, List.getElem?_cons_succ, asLst_list, asInt_int, asBool_bool, asStr_str, Option.bind_some]
      simp only [Bool.not_true, cond_false, e2]
      rw [f0, Option.bind_some]
      simp only [List.getElem?_cons_zero, List.getElem?_cons_succ, asLst_list, asInt_int, asBool_bool, asStr_str, Option.bind_some]
      rw [hin, wrap_succ (by omega)]
      exact sums_outer hn hK1 hK hls hsm hn2 d (i + 1) m S c k (by omega) (by omega) (hI.mono (by omega)) hk0 (by omega)
    | inr q =>
      have hp := post_good (n := n + 1) (c := c) hL hk0 (by omega) hs.small hr
      have hI' := hI.post hb hs hr
      have t2 := e2_trial (n := n + 1) (c := -1) (k := k + 1) (hI'.led (by omega) (by omega)).up
      have hne : ((((ls[i]).map enF).length : Int) == 0) = false := by
        have : (ls[i]).length ≠ 0 := fun h0 => by
          unfold rdL at hr
          rw [if_pos h0] at hr
          cases hr
        simpa using this
      have e1 : ((0 : Int) != 0) = false := rfl
      have e2 : ((0 : Int) == 0) = true := rfl
      have hin := sums_inner (n := n) (m0 := m) (ls := ls) (c := -1) (k := k + 1) (i := (i : Int)) hI' (by omega) hK (lpost S q).length 0 (n + 2) (by omega) (by have := hI'.len; omega)
      rw [List.take_zero, show lsum [] = 0 from rfl, show ((0 : Nat) : Int) = 0 from rfl] at hin
      rw [t1, Option.bind_some]
      simp only [List.getElem?_cons_zero, List.getElem?_cons_succ, asLst_list, asInt_int, asBool_bool, asStr_str, Option.bind_some]
      rw [hp, Option.bind_some]
      simp only [List.getElem?_cons_zero, List.getElem?_cons_succ, asLst_list, asInt_int, asBool_bool, asStr_str, Option.bind_some]
      rw [t2, Option.bind_some]
      simp only [List.getElem?_cons_zero, List.getElem?_cons_succ, asLst_list, asInt_int, asBool_bool, asStr_str, Option.bind_some]
      simp only [e1, cond_false, e2, cond_true, Option.bind_some, ix1, tF_at hlt, hne]
      rw [f0, Option.bind_some]
      simp only [List.getElem?_cons_zero, List.getElem?_cons_succ, asLst_list, asInt_int, asBool_bool, asStr_str, Option.bind_some]
      rw [hin, wrap_succ (by omega)]
      exact sums_outer hn hK1 hK hls hsm hn2 d (i + 1) m (lpost S q) (-1) (k + 1) (by omega) (by omega) hI' (by omega) (by omega)

theorem sums_at {n : Nat} (hn : 300000 ≤ n) (ls : List EL) : evF En2 (n + 3) 8 [.list 1 (ls.map tF)] = some [.bool true] := by
  obtain ⟨b, g1, g2⟩ := heavy_run (N := n + 1) (by omega) ls
  have f0 := e2_new (n + 1)
  rw [noonbelllaw19_LedgerSums_eq]
  rw [g1, Option.bind_some]
  simp only [List.getElem?_cons_zero, List.getElem?_cons_succ, asLst_list, asInt_int, asBool_bool, asStr_str, Option.bind_some]
  cases b with
  | true => rfl
  | false =>
    obtain ⟨g3, g4⟩ := g2 rfl
    obtain ⟨K, hK1, hK2⟩ : ∃ K, 16384 ≤ K ∧ K + 50 ≤ 1000000 := ⟨16384, by omega, by omega⟩
    have h := sums_outer (n := n) (K := K) (by omega) hK1 hK2 g3 g4 hn ls.length 0 (n + 2) [] 0 0 (by omega) (by omega) (Inv.nil _) (by omega) (by omega)
    rw [show ((0 : Nat) : Int) = 0 from rfl] at h
    rw [cond_false]
    rw [f0, Option.bind_some]
    simp only [List.getElem?_cons_zero, List.getElem?_cons_succ, asLst_list, asInt_int, asBool_bool, asStr_str, Option.bind_some]
    exact h

theorem sums_pure (L : List FV) (h : All2 Fits [.lst false 24 [.lst true 32 [.str, .str]]] L) : ∃ n, evF En2 n 8 L = some [.bool true] := by
  obtain ⟨y1, r1, rfl, h1, h⟩ := h.cons_inv
  obtain rfl := h.nil_inv
  obtain ⟨ls, rfl⟩ := trans_of h1
  obtain ⟨n, hn⟩ : ∃ n, 300000 ≤ n := ⟨300000, Nat.le_refl _⟩
  exact ⟨n + 3, sums_at hn ls⟩

end Rf
end
