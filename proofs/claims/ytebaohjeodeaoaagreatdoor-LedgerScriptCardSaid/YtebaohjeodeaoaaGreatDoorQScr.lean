/- Texts of this work put together: Scr. -/
import Derived.Test.YtebaohjeodeaoaaGreatDoorQRle

section
/- LedgerScript: the program's ledger and the document's answer alike. -/
set_option linter.unusedSimpArgs false
set_option linter.unusedVariables false
set_option maxHeartbeats 2000000
namespace Rf
open Go

theorem scr_inner {n m0 : Nat} {ls : List EL} {s1 : ByteArray} {S : LS} {c k x5 : Int} {i a K : Nat} (hn : 300000 ≤ n) (hI : Inv S a K) (ha : a ≤ 4500) (hK : K + 50 ≤ 1000000) (hi : i < ls.length) (hil : ls.length ≤ 4096) {l : EL} (hl : ls[i] = l) (hs : SmT l) : ∀ (d j m : Nat), j + d = l.length → d < m →
    noonbelllaw19_LedgerScript.l14 (n + 2) [m0] m [.list 1 (ls.map tF), .str s1, .list 3 (stE S), .int .i64 c, .int .i64 k, .list 3 (rE S), .int .i64 x5, .int .i64 (i : Int), .int .i64 (j : Int)] =
      noonbelllaw19_LedgerScript.l8 (n + 2) [] m0 [.list 1 (ls.map tF), .str s1, .list 3 (stE S), .int .i64 c, .int .i64 k, .list 3 (rE S), .int .i64 x5, .int .i64 ((i + 1 : Nat) : Int)]
  | 0, j, m, hj, hm => by
    obtain ⟨m, rfl⟩ : ∃ x, m = x + 1 := ⟨m - 1, by omega⟩
    have ix1 : ix (i : Int) (ls.map tF).length = some i := ix_nat (by simpa using hi)
    rw [noonbelllaw19_LedgerScript.l14_eq, ix1, Option.bind_some, tF_at hi, Option.bind_some, hl, List.length_map, decide_eq_false (by omega), cond_false, wrap_succ (by omega)]
  | d + 1, j, m, hj, hm => by
    obtain ⟨m, rfl⟩ : ∃ x, m = x + 1 := ⟨m - 1, by omega⟩
    have hlt : j < l.length := by omega
    have hl2 := hI.lim2 (by omega)
    have hsz := (hs.2 _ (List.getElem_mem hlt)).1
    have hll := hs.1
    have ix1 : ix (i : Int) (ls.map tF).length = some i := ix_nat (by simpa using hi)
    have ix2 : ix (j : Int) (l.map enF).length = some j := ix_nat (by simpa using hlt)
    have f1 := e2_bal (n := n) (c := c) (k := k) (K := K + 21) (by omega) hl2 (l[j]).1.data.toList
    rw [← str_sK] at f1
    have f2 := refbal (n := n) (x1 := x5) (l[j]).1 (K := K + 21) (by omega) hl2 (by have := hI.len; omega) hn
    have f3 := e2_acct (n := n + 1) (a := (l[j]).1) (by omega)
    have f4 := e2_acctR (n := n + 1) (a := (l[j]).1) (by omega)
    have ih := scr_inner (n := n) (m0 := m0) (s1 := s1) (c := c) (k := k) (x5 := x5) hn hI ha hK hi hil hl hs d (j + 1) m (by omega) (by omega)
    rw [noonbelllaw19_LedgerScript.l14_eq, ix1, Option.bind_some, tF_at hi, Option.bind_some, hl, List.length_map, decide_eq_true (by omega), cond_true]
    rw [List.length_map] at ix2
    simp only [ix1, Option.bind_some, tF_at hi, hl, List.length_map, ix2, enF_at0 hlt]
    rw [f1, Option.bind_some]
    simp only [List.getElem?_cons_zero, List.getElem?_cons_succ, asLst_list, asInt_int, asBool_bool, asStr_str, Option.bind_some]
    rw [f2, Option.bind_some]
    simp only [List.getElem?_cons_zero, List.getElem?_cons_succ, asLst_list, asInt_int, asBool_bool, asStr_str, Option.bind_some]
    rw [toList_eq, decide_eq_true rfl, Bool.not_true, cond_false]
    rw [f3, Option.bind_some]
    simp only [List.getElem?_cons_zero, List.getElem?_cons_succ, asLst_list, asInt_int, asBool_bool, asStr_str, Option.bind_some]
    rw [f4, Option.bind_some]
    simp only [List.getElem?_cons_zero, List.getElem?_cons_succ, asLst_list, asInt_int, asBool_bool, asStr_str, Option.bind_some]
    rw [beq_self_eq_true, Bool.not_true, cond_false, wrap_succ (by omega)]
    exact ih

theorem scr_outer {n : Nat} {ls : List EL} {s1 : ByteArray} {K : Nat} (hn : 300000 ≤ n) (hK1 : 16384 ≤ K) (hK : K + 50 ≤ 1000000) (hls : ls.length ≤ 4096) (hsm : ∀ l, l ∈ ls → SmT l) : ∀ (d i m : Nat) (S : LS) (c : Int) (k : Nat), i + d = ls.length → d < m → Inv S i K → k ≤ i →
    noonbelllaw19_LedgerScript.l8 (n + 3) [] m [.list 1 (ls.map tF), .str s1, .list 3 (stE S), .int .i64 c, .int .i64 (k : Int), .list 3 (rE S), .int .i64 (k : Int), .int .i64 (i : Int)] = some [.bool true]
  | 0, i, m, S, c, k, hi, hm, hI, hk => by
    obtain ⟨m, rfl⟩ : ∃ x, m = x + 1 := ⟨m - 1, by omega⟩
    rw [noonbelllaw19_LedgerScript.l8_eq, List.length_map, decide_eq_false (by omega), cond_false]
  | d + 1, i, m, S, c, k, hi, hm, hI, hk => by
    obtain ⟨m, rfl⟩ : ∃ x, m = x + 1 := ⟨m - 1, by omega⟩
    have hlt : i < ls.length := by omega
    have hs := hsm _ (List.getElem_mem hlt)
    have hb := hs.bd (K := K) hK1
    have hL := hI.led (by omega) (by omega)
    have ix1 : ix (i : Int) (ls.map tF).length = some i := ix_nat (by simpa using hlt)
    have m1 := e2_may (n := n + 1) (es := stE S) (c := c) (k := (k : Int)) hs.small
    have hlen := hI.len
    rw [noonbelllaw19_LedgerScript.l8_eq, decide_eq_true (by simpa using hlt : (i : Int) < ((ls.map tF).length : Int)), cond_true]
    simp only [ix1, Option.bind_some, tF_at hlt]
    rw [m1, Option.bind_some]
    simp only [List.getElem?_cons_zero, List.getElem?_cons_succ, asLst_list, asInt_int, asBool_bool, asStr_str, Option.bind_some]
    rw [m1, Option.bind_some]
    simp only [List.getElem?_cons_zero, List.getElem?_cons_succ, asLst_list, asInt_int, asBool_bool, asStr_str, Option.bind_some]
    rw [show (rdC (ls[i]) != rdC (ls[i])) = false by simp, cond_false]
    cases hr : rdL (ls[i]) with
    | inl e =>
      have e0 : rdC (ls[i]) = e := by unfold rdC; rw [hr]
      have p1 := post_bad (n := n + 2) (c := c) hL (show (0 : Int) ≤ (k : Int) by omega) (by omega) hs.small hr
      have p2 := refpost_bad (n := n) (S := S) (x1 := (k : Int)) (K := K) (by omega) hb (by omega) hr
      have t1 := e2_trial (n := n + 2) (c := c) (k := (k : Int)) hL.up
      have t2 := reftrial (n := n + 1) (S := S) (x1 := (k : Int)) (K := K + 21) (by omega) (hI.lim2 (by omega)) (by omega) (by omega)
      have t3 := e2_same (n := n + 2) (l := tL S) (by simp [tL]; omega)
      have t4 := e2_len (n + 2) (stE S) c (k : Int)
      have t5 := e2_bal (n := n + 1) (c := c) (k := (k : Int)) (K := K + 21) (by omega) (hI.lim2 (by omega)) s1.data.toList
      rw [← str_sK] at t5
      have t6 := refbal (n := n + 1) (x1 := (k : Int)) s1 (K := K + 21) (by omega) (hI.lim2 (by omega)) (by omega) (by omega)
      have hin := scr_inner (n := n + 1) (m0 := m) (s1 := s1) (c := c) (k := (k : Int)) (x5 := (k : Int)) (by omega) hI (by omega) hK hlt hls rfl hs (ls[i]).length 0 (n + 3) (by omega) (by have := hs.1; omega)
      rw [show ((0 : Nat) : Int) = 0 from rfl] at hin
      rw [e0]
      rw [p1, Option.bind_some]
      simp only [List.getElem?_cons_zero, List.getElem?_cons_succ, asLst_list, asInt_int, asBool_bool, asStr_str, Option.bind_some]
      rw [show (e != e) = false by simp, cond_false]
      rw [p2, Option.bind_some]
      simp only [List.getElem?_cons_zero, List.getElem?_cons_succ, asLst_list, asInt_int, asBool_bool, asStr_str, Option.bind_some]
      rw [show (e != e) = false by simp, cond_false]
      rw [t1, Option.bind_some]
      simp only [List.getElem?_cons_zero, List.getElem?_cons_succ, asLst_list, asInt_int, asBool_bool, asStr_str, Option.bind_some]
      rw [t2, Option.bind_some]
      simp only [List.getElem?_cons_zero, List.getElem?_cons_succ, asLst_list, asInt_int, asBool_bool, asStr_str, Option.bind_some]
      rw [t3, Option.bind_some]
      simp only [List.getElem?_cons_zero, List.getElem?_cons_succ, asLst_list, asInt_int, asBool_bool, asStr_str, Option.bind_some]
      rw [Bool.not_true, cond_false]
      rw [t4, Option.bind_some]
      simp only [List.getElem?_cons_zero, List.getElem?_cons_succ, asLst_list, asInt_int, asBool_bool, asStr_str, Option.bind_some]
      rw [show ((k : Int) != (k : Int)) = false by simp, cond_false]
      rw [t5, Option.bind_some]
      simp only [List.getElem?_cons_zero, List.getElem?_cons_succ, asLst_list, asInt_int, asBool_bool, asStr_str, Option.bind_some]
      rw [t6, Option.bind_some]
      simp only [List.getElem?_cons_zero, List.getElem?_cons_succ, asLst_list, asInt_int, asBool_bool, asStr_str, Option.bind_some]
      rw [toList_eq, decide_eq_true rfl, Bool.not_true, cond_false]
      rw [hin]
      exact scr_outer hn hK1 hK hls hsm d (i + 1) m S c k (by omega) (by omega) (hI.mono (by omega)) (by omega)
    | inr q =>
      have e0 : rdC (ls[i]) = 0 := by unfold rdC; rw [hr]
      have hI' := hI.post hb hs hr
      have hL' := hI'.led (by omega) (by omega)
      have hlen' := hI'.len
      have kk : IntKind.wrap .i64 ((k : Int) + 1) = ((k : Int) + 1) := by rw [wrap64_id (by omega) (by omega)]
      have p1 := post_good (n := n + 2) (c := c) hL (show (0 : Int) ≤ (k : Int) by omega) (by omega) hs.small hr
      have p2 := refpost_good (n := n) (S := S) (x1 := (k : Int)) (K := K) (KK := K + 30) (M := i * (64 * 2 ^ K)) (B := 262144) (by omega) (by
        have h1 : 2 ^ (K + 30) = 2 ^ K * 1073741824 := Nat.pow_add 2 K 30
        have h2 : i * (64 * 2 ^ K) ≤ 4096 * (64 * 2 ^ K) := Nat.mul_le_mul_right _ (by omega)
        rw [h1]
        generalize (2 : Nat) ^ K = P at *
        omega) (by omega) hb (by omega) (by omega) hI.asc hI.lim (by omega) hr
      rw [kk] at p2
      have t1 := e2_trial (n := n + 2) (c := -1) (k := (k : Int) + 1) hL'.up
      have t2 := reftrial (n := n + 1) (S := lpost S q) (x1 := (k : Int) + 1) (K := K + 21) (by omega) (hI'.lim2 (by omega)) (by omega) (by omega)
      have t3 := e2_same (n := n + 2) (l := tL (lpost S q)) (by simp [tL]; omega)
      have t4 := e2_len (n + 2) (stE (lpost S q)) (-1) ((k : Int) + 1)
      have t5 := e2_bal (n := n + 1) (c := -1) (k := (k : Int) + 1) (K := K + 21) (by omega) (hI'.lim2 (by omega)) s1.data.toList
      rw [← str_sK] at t5
      have t6 := refbal (n := n + 1) (x1 := (k : Int) + 1) s1 (K := K + 21) (by omega) (hI'.lim2 (by omega)) (by omega) (by omega)
      have hin := scr_inner (n := n + 1) (m0 := m) (s1 := s1) (c := -1) (k := (k : Int) + 1) (x5 := (k : Int) + 1) (by omega) hI' (by omega) hK hlt hls rfl hs (ls[i]).length 0 (n + 3) (by omega) (by have := hs.1; omega)
      rw [show ((0 : Nat) : Int) = 0 from rfl] at hin
      rw [e0]
      rw [p1, Option.bind_some]
      simp only [List.getElem?_cons_zero, List.getElem?_cons_succ, asLst_list, asInt_int, asBool_bool, asStr_str, Option.bind_some]
      rw [show ((0 : Int) != 0) = false from rfl, cond_false]
      rw [p2, Option.bind_some]
      simp only [List.getElem?_cons_zero, List.getElem?_cons_succ, asLst_list, asInt_int, asBool_bool, asStr_str, Option.bind_some]
      rw [show ((0 : Int) != 0) = false from rfl, cond_false]
      rw [t1, Option.bind_some]
      simp only [List.getElem?_cons_zero, List.getElem?_cons_succ, asLst_list, asInt_int, asBool_bool, asStr_str, Option.bind_some]
      rw [t2, Option.bind_some]
      simp only [List.getElem?_cons_zero, List.getElem?_cons_succ, asLst_list, asInt_int, asBool_bool, asStr_str, Option.bind_some]
      rw [t3, Option.bind_some]
      simp only [List.getElem?_cons_zero, List.getElem?_cons_succ, asLst_list, asInt_int, asBool_bool, asStr_str, Option.bind_some]
      rw [Bool.not_true, cond_false]
      rw [t4, Option.bind_some]
      simp only [List.getElem?_cons_zero, List.getElem?_cons_succ, asLst_list, asInt_int, asBool_bool, asStr_str, Option.bind_some]
      rw [show ((k : Int) + 1 != (k : Int) + 1) = false by simp, cond_false]
      rw [t5, Option.bind_some]
      simp only [List.getElem?_cons_zero, List.getElem?_cons_succ, asLst_list, asInt_int, asBool_bool, asStr_str, Option.bind_some]
      rw [t6, Option.bind_some]
      simp only [List.getElem?_cons_zero, List.getElem?_cons_succ, asLst_list, asInt_int, asBool_bool, asStr_str, Option.bind_some]
      rw [toList_eq, decide_eq_true rfl, Bool.not_true, cond_false]
      rw [hin]
      have := scr_outer (n := n) (s1 := s1) hn hK1 hK hls hsm d (i + 1) m (lpost S q) (-1) (k + 1) (by omega) (by omega) hI' (by omega)
      rw [show ((k + 1 : Nat) : Int) = (k : Int) + 1 by omega] at this
      exact this

theorem scr_at {n : Nat} (hn : 300000 ≤ n) (ls : List EL) (s1 : ByteArray) : evF En2 (n + 4) 10 [.list 1 (ls.map tF), .str s1] = some [.bool true] := by
  obtain ⟨b, g1, g2⟩ := heavy_run (N := n + 2) (by omega) ls
  have f0 := e2_new (n + 2)
  rw [noonbelllaw19_LedgerScript_eq]
  rw [g1, Option.bind_some]
  simp only [List.getElem?_cons_zero, List.getElem?_cons_succ, asLst_list, asInt_int, asBool_bool, asStr_str, Option.bind_some]
  cases b with
  | true => rfl
  | false =>
    obtain ⟨g3, g4⟩ := g2 rfl
    rw [cond_false]
    by_cases h : (s1.size : Int) > 4096
    · rw [decide_eq_true h, cond_true]
    rw [decide_eq_false h, cond_false]
    have a1 := e2_acct (n := n + 2) (a := s1) (by omega)
    have a2 := e2_acctR (n := n + 2) (a := s1) (by omega)
    obtain ⟨K, hK1, hK2⟩ : ∃ K, 16384 ≤ K ∧ K + 50 ≤ 1000000 := ⟨16384, by omega, by omega⟩
    have h := scr_outer (n := n) (s1 := s1) (K := K) hn hK1 hK2 g3 g4 ls.length 0 (n + 3) [] 0 0 (by omega) (by omega) (Inv.nil _) (by omega)
    rw [show ((0 : Nat) : Int) = 0 from rfl, show rE [] = [] from rfl] at h
    rw [f0, Option.bind_some]
    simp only [List.getElem?_cons_zero, List.getElem?_cons_succ, asLst_list, asInt_int, asBool_bool, asStr_str, Option.bind_some]
    rw [a1, Option.bind_some]
    simp only [List.getElem?_cons_zero, List.getElem?_cons_succ, asLst_list, asInt_int, asBool_bool, asStr_str, Option.bind_some]
    rw [a2, Option.bind_some]
    simp only [List.getElem?_cons_zero, List.getElem?_cons_succ, asLst_list, asInt_int, asBool_bool, asStr_str, Option.bind_some]
    rw [beq_self_eq_true, Bool.not_true, cond_false]
    exact h

theorem script_pure (L : List FV) (h : All2 Fits [.lst false 24 [.lst true 32 [.str, .str]], .str] L) : ∃ n, evF En2 n 10 L = some [.bool true] := by
  obtain ⟨y1, r1, rfl, h1, h⟩ := h.cons_inv
  obtain ⟨y2, r2, rfl, h2, h⟩ := h.cons_inv
  obtain rfl := h.nil_inv
  obtain ⟨ls, rfl⟩ := trans_of h1
  obtain ⟨s, rfl, _⟩ := h2.str_inv
  obtain ⟨n, hn⟩ : ∃ n, 300000 ≤ n := ⟨300000, Nat.le_refl _⟩
  exact ⟨n + 4, scr_at hn ls s⟩

end Rf
end
