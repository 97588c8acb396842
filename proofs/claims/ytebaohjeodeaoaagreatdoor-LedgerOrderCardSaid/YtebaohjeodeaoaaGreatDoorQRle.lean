/- Texts of this work put together: Rle, Rlf. -/
import Derived.Test.YtebaohjeodeaoaaGreatDoorQInv

section
/- The document's ledger: each of its functions by a list of names that rise. -/
set_option linter.unusedSimpArgs false
set_option linter.unusedVariables false
set_option maxHeartbeats 2000000
namespace Rf
open Go

/-- a line -/
def lF (p : LK × Int) : FV := .agg [.str (txt p.1), zb p.2, wl p.2]
def rE (S : LS) : List FV := S.map lF

theorem rE_at0 {S : LS} {i : Nat} (h : i < S.length) : asStr (at' (rE S) i 0) = some (txt (S[i]).1) := by unfold rE; rw [at_map, List.getElem?_eq_getElem h]; rfl
theorem rE_at1 {S : LS} {i : Nat} (h : i < S.length) : asBool (at' (rE S) i 1) = some (decide ((S[i]).2 < 0)) := by unfold rE; rw [at_map, List.getElem?_eq_getElem h]; rfl
theorem rE_at2 {S : LS} {i : Nat} (h : i < S.length) : asLst 1 (at' (rE S) i 2) = some ((dg 1000000000 (S[i]).2.natAbs).map d64) := by unfold rE; rw [at_map, List.getElem?_eq_getElem h]; rfl
theorem rE_len (S : LS) : (rE S).length = S.length := by simp [rE]

theorem may_loop {n K : Nat} {l : EL} {l0 : List FV} {x1 : Int} (hK : K + 10 ≤ 1000000000) (hl : l.length ≤ 64) (hb : EBd l K) : ∀ (d i m : Nat) (s : Int), i + d = l.length → d < m → s.natAbs ≤ i * 2 ^ K →
    noonbellref19_Ledger_May.l7 (n + 1) [] m [.list 3 l0, .int .i64 x1, zb s, wl s, .list 2 (l.map enF), .int .i64 (i : Int)] =
      some [.list 3 l0, .int .i64 x1, .int .i64 (match rdE (l.drop i) with | .inl e => e | .inr q => if s + lsum q = 0 then 0 else 191)]
  | 0, i, m, s, hi, hm, hs => by
    obtain ⟨m, rfl⟩ : ∃ k, m = k + 1 := ⟨m - 1, by omega⟩
    have f1 := e2_signR (n := n) (z := s)
    rw [noonbellref19_Ledger_May.l7_eq, decide_eq_false (by rw [List.length_map]; omega), cond_false]
    rw [f1, Option.bind_some]
    simp only [List.getElem?_cons_zero, List.getElem?_cons_succ, asLst_list, asInt_int, asBool_bool, asStr_str, Option.bind_some]
    rw [List.drop_eq_nil_of_le (by omega)]
    simp only [rdE, lsum, List.map_nil, List.foldr_nil, Int.add_zero]
    by_cases h0 : s = 0
    · subst h0; rfl
    · rw [if_neg h0, show (s.sign != 0) = true by simpa using h0, cond_true]
  | d + 1, i, m, s, hi, hm, hs => by
    obtain ⟨m, rfl⟩ : ∃ k, m = k + 1 := ⟨m - 1, by omega⟩
    have hlt : i < l.length := by omega
    obtain ⟨b1, b2, b3⟩ := hb l[i] (List.getElem_mem hlt)
    have ix1 : ix (i : Int) (l.map enF).length = some i := ix_nat (by simpa using hlt)
    rw [List.drop_eq_getElem_cons hlt]
    rw [noonbellref19_Ledger_May.l7_eq, decide_eq_true (by rw [List.length_map]; omega), cond_true]
    simp only [ix1, Option.bind_some, enF_at0 hlt, enF_at1 hlt]
    rw [show l[i] = ((l[i]).1, (l[i]).2) from rfl]
    generalize hp1 : (l[i]).1 = a at *
    generalize hp2 : (l[i]).2 = t at *
    have f1 := e2_acctR (n := n) (a := a) (by omega)
    rw [f1, Option.bind_some]
    simp only [List.getElem?_cons_zero, List.getElem?_cons_succ, asLst_list, asInt_int, asBool_bool, asStr_str, Option.bind_some]
    cases ha : acct a with
    | false => simp only [rdE, ha]; rfl
    | true =>
      simp only [Bool.not_true, cond_false]
      cases hz : pz t.data.toList with
      | none =>
        have f2 := e2_parseR_bad (n := n) hz (by omega)
        rw [f2, Option.bind_some]
        simp only [List.getElem?_cons_zero, List.getElem?_cons_succ, asLst_list, asInt_int, asBool_bool, asStr_str, Option.bind_some]
        simp only [rdE, ha, if_true, hz]
        rfl
      | some z =>
        have hzb := b3 z hz
        have f2 := e2_parseR (n := n) hz (by omega)
        have f3 := e2_addR (n := n) (k := K + 7) (z := s) (w := z) (by omega) (mul_pow7 (by omega) hs) (pow7 hzb)
        have e0 : ((0 : Int) != 0) = false := rfl
        rw [f2, Option.bind_some]
        simp only [List.getElem?_cons_zero, List.getElem?_cons_succ, asLst_list, asInt_int, asBool_bool, asStr_str, Option.bind_some]
        rw [e0, cond_false]
        rw [f3, Option.bind_some]
        simp only [List.getElem?_cons_zero, List.getElem?_cons_succ, asLst_list, asInt_int, asBool_bool, asStr_str, Option.bind_some]
        have hs' : (s + z).natAbs ≤ (i + 1) * 2 ^ K := by
          rw [Nat.add_mul]; omega
        have ih := may_loop (n := n) (l0 := l0) (x1 := x1) hK hl hb d (i + 1) m (s + z) (by omega) (by omega) hs'
        rw [wrap_succ (by omega), ih]
        simp only [rdE, ha, hz, if_true]
        cases rdE (l.drop (i + 1)) with
        | inl e => rfl
        | inr q => simp only [lsum, List.map_cons, List.foldr_cons, Int.add_assoc]

theorem may_run {n K : Nat} {l : EL} {l0 : List FV} {x1 : Int} (hK : K + 10 ≤ 1000000000) (hb : EBd l K) (hn : 66 ≤ n) : evF En2 (n + 2) 76 [.list 3 l0, .int .i64 x1, .list 2 (l.map enF)] = some [.list 3 l0, .int .i64 x1, .int .i64 (rdC l)] := by
  rw [noonbellref19_Ledger_May_eq, rdC_eq, List.length_map]
  by_cases h0 : l.length = 0
  · rw [if_pos h0, show (((l.length : Nat) : Int) == 0) = true by simp [h0]]; rfl
  rw [if_neg h0, show (((l.length : Nat) : Int) == 0) = false by simpa using h0, cond_false]
  by_cases h1 : 64 < l.length
  · rw [if_pos h1, decide_eq_true (by omega)]; rfl
  have f0 := e2_ofR (n := n) (z := 0) (by omega) (by omega)
  have h := may_loop (n := n) (l0 := l0) (x1 := x1) hK (Nat.not_lt.1 h1) hb l.length 0 (n + 1) 0 (by omega) (by omega) (by simp)
  rw [List.drop_zero] at h
  simp only [Int.zero_add] at h
  rw [show ((0 : Nat) : Int) = 0 from rfl] at h
  rw [if_neg h1, decide_eq_false (by omega), cond_false]
  rw [f0, Option.bind_some]
  simp only [List.getElem?_cons_zero, List.getElem?_cons_succ, asLst_list, asInt_int, asBool_bool, asStr_str, Option.bind_some]
  exact h

/-! ### posted -/
theorem ladd_app {a : LK} {z : Int} : ∀ {pre rest : LS}, (∀ p, p ∈ pre → p.1 < a) → ladd (pre ++ rest) a z = pre ++ ladd rest a z
  | [], _, _ => rfl
  | (b, x) :: pre, rest, h => by
    rw [List.cons_append, ladd, if_pos (h (b, x) (by simp)), ladd_app fun p hp => h p (by simp [hp])]
    rfl

theorem place {S : LS} {a : LK} {z : Int} {k : Nat} (hk : k ≤ S.length) (h : ∀ p, p ∈ S.take k → p.1 < a) : ladd S a z = S.take k ++ ladd (S.drop k) a z := by
  have := ladd_app (z := z) (rest := S.drop k) h
  rwa [List.take_append_drop] at this

theorem put_in {S : LS} {a : LK} {z : Int} {k : Nat} (hk : k ≤ S.length) (h : ∀ p, p ∈ S.take k → p.1 < a) (h2 : ∀ (hl : k < S.length), a < (S[k]).1) : rE (ladd S a z) = (rE S).take k ++ [lF (a, z)] ++ (rE S).drop k := by
  have e : ladd (S.drop k) a z = (a, z) :: S.drop k := by
    by_cases hl : k < S.length
    · rw [List.drop_eq_getElem_cons hl]
      have := h2 hl
      rw [show S[k] = ((S[k]).1, (S[k]).2) from rfl, ladd, if_neg (fun q => klt_irr _ (klt_tr q this)), if_neg (fun q => by rw [q] at this; exact klt_irr _ this)]
    · rw [List.drop_eq_nil_of_le (by omega)]; rfl
  rw [place hk h, e]
  unfold rE
  rw [List.map_append, List.map_cons, List.map_take, List.map_drop, List.append_assoc]
  rfl

theorem put_on {S : LS} {a : LK} {z : Int} {k : Nat} (hl : k < S.length) (h : ∀ p, p ∈ S.take k → p.1 < a) (e : (S[k]).1 = a) : rE (ladd S a z) = setCs (rE S) k 1 [zb ((S[k]).2 + z), wl ((S[k]).2 + z)] := by
  have hd : ladd (S.drop k) a z = (a, (S[k]).2 + z) :: S.drop (k + 1) := by
    rw [List.drop_eq_getElem_cons hl]
    generalize S[k] = p at *
    obtain ⟨b, x⟩ := p
    simp only at e
    subst e
    rw [ladd, if_neg (klt_irr _), if_pos rfl]
  rw [place (by omega) h, hd]
  have hg : (rE S)[k]? = some (.agg [.str (txt (S[k]).1), zb (S[k]).2, wl (S[k]).2]) := by
    unfold rE; rw [List.getElem?_map, List.getElem?_eq_getElem hl]; rfl
  unfold setCs
  rw [hg]
  simp only [List.take_succ_cons, List.take_zero, List.length_cons, List.length_nil, List.drop_succ_cons, List.drop_zero, List.drop_nil, List.append_nil, List.cons_append, List.nil_append]
  rw [List.set_eq_take_append_cons_drop, if_pos (by rw [rE_len]; exact hl), e]
  unfold rE
  rw [List.map_append, List.map_cons, List.map_take, List.map_drop]
  rfl

theorem viewOf_none (n : Nat) : viewOf none n = (0, n) := rfl

theorem post9 {n m0 K : Nat} {l : EL} {S : LS} {x1 : Int} {z : Int} {i : Nat} (hA : Asc S) (hK : K + 10 ≤ 100000000) (hl : S.length ≤ 1000000) (hS : Lim S (2 ^ K)) (hz : z.natAbs < 2 ^ (K + 1)) (hi : i < l.length) (hil : l.length ≤ 1000000) : ∀ (d k m : Nat), k + d = S.length → d < m → (∀ p, p ∈ S.take k → p.1 < (l[i]).1.data.toList) →
    noonbellref19_Ledger_Post.l9 (n + 1) [m0] m [.list 3 (rE S), .int .i64 x1, zb z, wl z, .list 2 (l.map enF), .int .i64 (i : Int), .int .i64 (k : Int)] =
      noonbellref19_Ledger_Post.l5 (n + 1) [] m0 [.list 3 (rE (ladd S (l[i]).1.data.toList z)), .int .i64 x1, .list 2 (l.map enF), .int .i64 ((i + 1 : Nat) : Int)]
  | 0, k, m, hk, hm, hp => by
    obtain ⟨m, rfl⟩ : ∃ j, m = j + 1 := ⟨m - 1, by omega⟩
    have ix1 : ix (i : Int) (l.map enF).length = some i := ix_nat (by simpa using hi)
    have bd1 : bd (k : Int) (rE S).length = some k := bd_nat (by rw [rE_len]; omega)
    have hput := put_in (a := (l[i]).1.data.toList) (z := z) (by omega : k ≤ S.length) hp fun h => absurd h (by omega)
    have hn : decide ((k : Int) < ((rE S).length : Int)) = false := decide_eq_false (by rw [rE_len]; omega)
    rw [noonbellref19_Ledger_Post.l9_eq, hn, cond_false, cond_false]
    simp only [viewOf_none, bd1, Option.bind_some, ix1, enF_at0 hi, Nat.sub_zero, Nat.add_zero, Nat.zero_add, List.drop_zero]
    rw [show Nat.ble _ 2932031007402 = true from Nat.ble_eq_true_of_le (by simp [elemsOf, rE_len]; omega), cond_true, show Nat.ble _ 2932031007402 = true from Nat.ble_eq_true_of_le (by simp [elemsOf, rE_len]; omega), cond_true, show Nat.ble _ 2932031007402 = true from Nat.ble_eq_true_of_le (by simp [elemsOf, rE_len]; omega), cond_true, wrap_succ (by omega), hput, List.take_of_length_le (show ((rE S).drop k).length ≤ (rE S).length - k by rw [List.length_drop]; omega)]
    rfl
  | d + 1, k, m, hk, hm, hp => by
    obtain ⟨m, rfl⟩ : ∃ j, m = j + 1 := ⟨m - 1, by omega⟩
    have hlt : k < S.length := by omega
    have ix1 : ix (i : Int) (l.map enF).length = some i := ix_nat (by simpa using hi)
    have ix2 : ix (k : Int) (rE S).length = some k := ix_nat (by rw [rE_len]; exact hlt)
    have bd1 : bd (k : Int) (rE S).length = some k := bd_nat (by rw [rE_len]; omega)
    have hn : decide ((k : Int) < ((rE S).length : Int)) = true := decide_eq_true (by rw [rE_len]; omega)
    have hbl : Op.bytesLess (txt (S[k]).1).toList ((l[i]).1).toList = decide ((S[k]).1 < (l[i]).1.data.toList) := bl_txt _ ((l[i]).1.data.toList)
    have heq : ((txt (S[k]).1).toList == ((l[i]).1).toList) = decide ((S[k]).1 = (l[i]).1.data.toList) := by
      rw [toList_eq]
      exact decide_eq_decide.2 ⟨fun h => by rw [← h, txt_data], fun h => by rw [h, txt_of]⟩
    rw [noonbellref19_Ledger_Post.l9_eq, hn, cond_true]
    simp only [ix2, ix1, Option.bind_some, rE_at0 hlt, enF_at0 hi, cond_true, hbl, heq]
    by_cases h1 : (S[k]).1 < (l[i]).1.data.toList
    · rw [decide_eq_true h1, cond_true, wrap_succ (by omega)]
      exact post9 hA hK hl hS hz hi hil d (k + 1) m (by omega) (by omega) fun p hpp => by
        rw [List.take_add_one, List.getElem?_eq_getElem hlt, Option.toList_some, List.mem_append, List.mem_singleton] at hpp
        rcases hpp with hpp | rfl
        · exact hp p hpp
        · exact h1
    · rw [decide_eq_false h1, cond_false]
      by_cases h2 : (S[k]).1 = (l[i]).1.data.toList
      · rw [decide_eq_true h2, cond_true]
        have hz2 : (S[k]).2.natAbs < 2 ^ (K + 1) := by
          have h3 := hS _ (List.getElem_mem hlt)
          have h4 : 2 ^ (K + 1) = 2 ^ K * 2 := Nat.pow_succ ..
          have h5 : 0 < 2 ^ K := Nat.two_pow_pos K
          omega
        have f1 := e2_addR (n := n) (k := K + 1) (z := (S[k]).2) (w := z) (by omega) hz2 hz
        simp only [rE_at1 hlt, rE_at2 hlt, Option.bind_some]
        rw [f1, Option.bind_some]
        simp only [List.getElem?_cons_zero, List.getElem?_cons_succ, asLst_list, asInt_int, asBool_bool, asStr_str, Option.bind_some]
        rw [wrap_succ (by omega), put_on hlt hp h2]
      · rw [decide_eq_false h2, cond_false]
        have hput := put_in (a := (l[i]).1.data.toList) (z := z) (by omega : k ≤ S.length) hp fun _ => klt_tri h1 h2
        simp only [viewOf_none, bd1, Option.bind_some, Nat.sub_zero, Nat.add_zero, Nat.zero_add, List.drop_zero]
        rw [show Nat.ble _ 2932031007402 = true from Nat.ble_eq_true_of_le (by simp [elemsOf, rE_len]; omega), cond_true, show Nat.ble _ 2932031007402 = true from Nat.ble_eq_true_of_le (by simp [elemsOf, rE_len]; omega), cond_true, show Nat.ble _ 2932031007402 = true from Nat.ble_eq_true_of_le (by simp [elemsOf, rE_len]; omega), cond_true, wrap_succ (by omega), hput, List.take_of_length_le (show ((rE S).drop k).length ≤ (rE S).length - k by rw [List.length_drop]; omega)]
        rfl

end Rf
end

section
/- The document's ledger: posted, read, a balance. -/
set_option linter.unusedSimpArgs false
set_option linter.unusedVariables false
set_option maxHeartbeats 2000000
namespace Rf
open Go

theorem e2_acct {n : Nat} {a : ByteArray} (h : a.size ≤ 1099511627776) : evF En2 (n + 1) 35 [.str a] = some [.bool (acct a)] := by
  have e : evF En2 (n + 1) 35 [.str a] = acctExt [.str a] := by kernel_rfl
  rw [e, acctExt, if_pos h]

theorem rdE_cons {p : ByteArray × ByteArray} {r : EL} {q : LS} (h : rdE (p :: r) = .inr q) : ∃ z q', pz p.2.data.toList = some z ∧ rdE r = .inr q' ∧ q = (p.1.data.toList, z) :: q' := by
  obtain ⟨a, c⟩ := p
  simp only [rdE] at h
  split at h
  case isFalse => cases h
  cases hz : pz c.data.toList with
  | none => rw [hz] at h; cases h
  | some z =>
    rw [hz] at h
    simp only at h
    cases hr : rdE r with
    | inl e => rw [hr] at h; cases h
    | inr q' =>
      rw [hr] at h
      simp only [Sum.inr.injEq] at h
      exact ⟨z, q', rfl, rfl, h.symm⟩

theorem refpost_loop {n K KK M B : Nat} {l : EL} {x1 : Int} (hKK : KK + 10 ≤ 100000000) (hM : M + 64 * 2 ^ K ≤ 2 ^ KK) (hl : l.length ≤ 64) (hb : EBd l K) (hB : B + 64 ≤ 300000) (hn : 300000 ≤ n) : ∀ (d i m : Nat) (S q : LS), i + d = l.length → d < m → Asc S → Lim S (M + i * 2 ^ K) → S.length ≤ B + i → rdE (l.drop i) = .inr q →
    noonbellref19_Ledger_Post.l5 (n + 1) [] m [.list 3 (rE S), .int .i64 x1, .list 2 (l.map enF), .int .i64 (i : Int)] = some [.list 3 (rE (lpost S q)), .int .i64 (IntKind.wrap .i64 (x1 + 1)), .int .i64 0]
  | 0, i, m, S, q, hi, hm, hA, hS, hL, hq => by
    obtain ⟨m, rfl⟩ : ∃ k, m = k + 1 := ⟨m - 1, by omega⟩
    rw [List.drop_eq_nil_of_le (by omega)] at hq
    simp only [rdE, Sum.inr.injEq] at hq
    subst hq
    rw [noonbellref19_Ledger_Post.l5_eq, decide_eq_false (by rw [List.length_map]; omega), cond_false]
    rfl
  | d + 1, i, m, S, q, hi, hm, hA, hS, hL, hq => by
    obtain ⟨m, rfl⟩ : ∃ k, m = k + 1 := ⟨m - 1, by omega⟩
    have hlt : i < l.length := by omega
    obtain ⟨b1, b2, b3⟩ := hb l[i] (List.getElem_mem hlt)
    have ix1 : ix (i : Int) (l.map enF).length = some i := ix_nat (by simpa using hlt)
    rw [List.drop_eq_getElem_cons hlt] at hq
    obtain ⟨z, q', hz, hq', rfl⟩ := rdE_cons hq
    have f1 := e2_parseR (n := n) hz (by omega)
    have hzb := b3 z hz
    have hi64 : i * 2 ^ K ≤ 64 * 2 ^ K := Nat.mul_le_mul_right _ (by omega)
    have hM' : 64 * 2 ^ K ≤ 2 ^ KK := by omega
    have hzk : z.natAbs < 2 ^ (KK + 1) := by
      have h4 : 2 ^ (KK + 1) = 2 ^ KK * 2 := Nat.pow_succ ..
      omega
    have hS' : Lim S (2 ^ KK) := hS.mono (by omega)
    have hp := post9 (n := n) (m0 := m) (x1 := x1) (z := z) (K := KK) (l := l) (i := i) hA hKK (by omega) hS' hzk hlt (by omega) S.length 0 (n + 1) (by omega) (by omega) (fun p hp => by rw [List.take_zero] at hp; simp at hp)
    rw [show ((0 : Nat) : Int) = 0 from rfl] at hp
    rw [noonbellref19_Ledger_Post.l5_eq, decide_eq_true (by rw [List.length_map]; omega), cond_true]
    simp only [ix1, Option.bind_some, enF_at1 hlt]
    rw [f1, Option.bind_some]
    simp only [List.getElem?_cons_zero, List.getElem?_cons_succ, asLst_list, asInt_int, asBool_bool, asStr_str, Option.bind_some]
    rw [hp]
    have hA' := asc_add (l[i]).1.data.toList z hA
    have hL' := ladd_len (l[i]).1.data.toList z S
    refine refpost_loop hKK hM hl hb hB hn d (i + 1) m (ladd S (l[i]).1.data.toList z) q' (by omega) (by omega) hA' ((hS.add (k := (l[i]).1.data.toList) (z := z)).mono ?_) (by omega) hq'
    rw [Nat.add_mul]
    omega

theorem refpost_bad {n K : Nat} {l : EL} {S : LS} {x1 e : Int} (hK : K + 10 ≤ 1000000000) (hb : EBd l K) (hn : 66 ≤ n) (h : rdL l = .inl e) :
    evF En2 (n + 3) 34 [.list 3 (rE S), .int .i64 x1, .list 2 (l.map enF)] = some [.list 3 (rE S), .int .i64 x1, .int .i64 e] := by
  have f1 := may_run (n := n) (l0 := rE S) (x1 := x1) hK hb hn
  have he := rdL_ne h
  have e1 : rdC l = e := by unfold rdC; rw [h]
  rw [e1] at f1
  have e2 : (e != 0) = true := by simpa using he
  rw [noonbellref19_Ledger_Post_eq]
  rw [f1, Option.bind_some]
  simp only [List.getElem?_cons_zero, List.getElem?_cons_succ, asLst_list, asInt_int, asBool_bool, asStr_str, Option.bind_some]
  rw [e2, cond_true]

theorem refpost_good {n K KK M B : Nat} {l : EL} {S : LS} {x1 : Int} {q : LS} (hKK : KK + 10 ≤ 100000000) (hM : M + 64 * 2 ^ K ≤ 2 ^ KK) (hK : K + 10 ≤ 1000000000) (hb : EBd l K) (hB : B + 64 ≤ 300000) (hn : 300000 ≤ n) (hA : Asc S) (hS : Lim S M) (hL : S.length ≤ B) (h : rdL l = .inr q) :
    evF En2 (n + 3) 34 [.list 3 (rE S), .int .i64 x1, .list 2 (l.map enF)] = some [.list 3 (rE (lpost S q)), .int .i64 (IntKind.wrap .i64 (x1 + 1)), .int .i64 0] := by
  have f1 := may_run (n := n) (l0 := rE S) (x1 := x1) hK hb (by omega)
  have e1 : rdC l = 0 := by unfold rdC; rw [h]
  obtain ⟨h1, h2, h3⟩ := rdL_inr h
  rw [e1] at f1
  have e2 : ((0 : Int) != 0) = false := rfl
  have hlp := refpost_loop (n := n + 1) (x1 := x1) hKK hM h2 hb hB (by omega) l.length 0 (n + 2) S q (by omega) (by omega) hA (by simpa using hS) (by omega) (by rwa [List.drop_zero])
  rw [show ((0 : Nat) : Int) = 0 from rfl] at hlp
  rw [noonbellref19_Ledger_Post_eq]
  rw [f1, Option.bind_some]
  simp only [List.getElem?_cons_zero, List.getElem?_cons_succ, asLst_list, asInt_int, asBool_bool, asStr_str, Option.bind_some]
  rw [e2, cond_false]
  exact hlp

/-! ### read -/
theorem tL_take {S : LS} {j : Nat} (h : j < S.length) : (tL (S.take (j + 1))).map enF = (tL (S.take j)).map enF ++ [.agg [.str (txt (S[j]).1), sF (ztext (S[j]).2)]] := by
  rw [List.take_add_one, List.getElem?_eq_getElem h, Option.toList_some]
  simp only [tL, List.map_append, List.map_cons, List.map_nil]
  rfl

theorem el_one (z v : FV) : elemsOf 1 z [(0, v)] = [v] := rfl

theorem reftrial_loop {n K : Nat} {S : LS} {x1 : Int} (hK : K + 1 ≤ 100000000000) (hS : Lim S (2 ^ K)) (hL : S.length ≤ 300000) : ∀ (d j m : Nat), j + d = S.length → d < m →
    noonbellref19_Ledger_Trial.l3 (n + 1) [] m [.list 3 (rE S), .int .i64 x1, .list 2 ((tL (S.take j)).map enF), .int .i64 (j : Int)] = some [.list 3 (rE S), .int .i64 x1, .list 2 ((tL S).map enF)]
  | 0, j, m, hj, hm => by
    obtain ⟨m, rfl⟩ : ∃ k, m = k + 1 := ⟨m - 1, by omega⟩
    rw [noonbellref19_Ledger_Trial.l3_eq, decide_eq_false (by rw [rE_len]; omega), cond_false, List.take_of_length_le (by omega)]
  | d + 1, j, m, hj, hm => by
    obtain ⟨m, rfl⟩ : ∃ k, m = k + 1 := ⟨m - 1, by omega⟩
    have hlt : j < S.length := by omega
    have ix1 : ix (j : Int) (rE S).length = some j := ix_nat (by rw [rE_len]; exact hlt)
    have hz : (S[j]).2.natAbs < 2 ^ (K + 1) := by
      have h3 := hS _ (List.getElem_mem hlt)
      have h4 : 2 ^ (K + 1) = 2 ^ K * 2 := Nat.pow_succ ..
      have h5 : 0 < 2 ^ K := Nat.two_pow_pos K
      omega
    have f1 := e2_textR (n := n) (z := (S[j]).2) (k := K + 1) (by omega) hz
    have ih := reftrial_loop (n := n) (x1 := x1) hK hS hL d (j + 1) m (by omega) (by omega)
    rw [tL_take hlt] at ih
    rw [noonbellref19_Ledger_Trial.l3_eq, decide_eq_true (by rw [rE_len]; omega), cond_true]
    simp only [ix1, Option.bind_some, rE_at0 hlt, rE_at1 hlt, rE_at2 hlt]
    rw [f1, Option.bind_some]
    simp only [List.getElem?_cons_zero, List.getElem?_cons_succ, asLst_list, asInt_int, asBool_bool, asStr_str, Option.bind_some]
    rw [show Nat.ble _ 4398046511104 = true from Nat.ble_eq_true_of_le (by rw [el_one]; simp [tL]; omega), cond_true, el_one, wrap_succ (by omega)]
    exact ih

theorem reftrial {n K : Nat} {S : LS} {x1 : Int} (hK : K + 1 ≤ 100000000000) (hS : Lim S (2 ^ K)) (hL : S.length ≤ 300000) (hn : 300000 ≤ n) :
    evF En2 (n + 2) 37 [.list 3 (rE S), .int .i64 x1] = some [.list 3 (rE S), .int .i64 x1, .list 2 ((tL S).map enF)] := by
  have h := reftrial_loop (n := n) (x1 := x1) hK hS hL S.length 0 (n + 1) (by omega) (by omega)
  rw [show ((0 : Nat) : Int) = 0 from rfl] at h
  rw [noonbellref19_Ledger_Trial_eq]
  exact h

theorem refbal_loop {n K : Nat} {S : LS} {x1 : Int} {s : ByteArray} (hK : K + 1 ≤ 100000000000) (hS : Lim S (2 ^ K)) (hL : S.length ≤ 300000) : ∀ (d j m : Nat), j + d = S.length → d < m →
    noonbellref19_Ledger_Balance.l2 (n + 1) [] m [.list 3 (rE S), .int .i64 x1, .str s, .int .i64 (j : Int)] = some [.list 3 (rE S), .int .i64 x1, sF (ztext (lget (S.drop j) s.data.toList))]
  | 0, j, m, hj, hm => by
    obtain ⟨m, rfl⟩ : ∃ k, m = k + 1 := ⟨m - 1, by omega⟩
    rw [noonbellref19_Ledger_Balance.l2_eq, decide_eq_false (by rw [rE_len]; omega), cond_false, List.drop_eq_nil_of_le (by omega), txt_z0]
    rfl
  | d + 1, j, m, hj, hm => by
    obtain ⟨m, rfl⟩ : ∃ k, m = k + 1 := ⟨m - 1, by omega⟩
    have hlt : j < S.length := by omega
    have ix1 : ix (j : Int) (rE S).length = some j := ix_nat (by rw [rE_len]; exact hlt)
    have heq : ((txt (S[j]).1).toList == s.toList) = decide ((S[j]).1 = s.data.toList) := by
      rw [toList_eq]
      exact decide_eq_decide.2 ⟨fun h => by rw [← h, txt_data], fun h => by rw [h, txt_of]⟩
    rw [noonbellref19_Ledger_Balance.l2_eq, decide_eq_true (by rw [rE_len]; omega), cond_true, List.drop_eq_getElem_cons hlt]
    simp only [ix1, Option.bind_some, rE_at0 hlt, heq]
    rw [show S[j] = ((S[j]).1, (S[j]).2) from rfl, lget]
    by_cases h : (S[j]).1 = s.data.toList
    · have hz : (S[j]).2.natAbs < 2 ^ (K + 1) := by
        have h3 := hS _ (List.getElem_mem hlt)
        have h4 : 2 ^ (K + 1) = 2 ^ K * 2 := Nat.pow_succ ..
        have h5 : 0 < 2 ^ K := Nat.two_pow_pos K
        omega
      have f1 := e2_textR (n := n) (z := (S[j]).2) (k := K + 1) (by omega) hz
      rw [if_pos h, decide_eq_true h, cond_true]
      simp only [rE_at1 hlt, rE_at2 hlt, Option.bind_some]
      rw [f1, Option.bind_some]
      simp only [List.getElem?_cons_zero, List.getElem?_cons_succ, asLst_list, asInt_int, asBool_bool, asStr_str, Option.bind_some]
    · rw [if_neg h, decide_eq_false h, cond_false, wrap_succ (by omega)]
      exact refbal_loop (n := n) hK hS hL d (j + 1) m (by omega) (by omega)

theorem refbal {n K : Nat} {S : LS} {x1 : Int} (s : ByteArray) (hK : K + 1 ≤ 100000000000) (hS : Lim S (2 ^ K)) (hL : S.length ≤ 300000) (hn : 300000 ≤ n) :
    evF En2 (n + 2) 38 [.list 3 (rE S), .int .i64 x1, .str s] = some [.list 3 (rE S), .int .i64 x1, sF (ztext (lget S s.data.toList))] := by
  have h := refbal_loop (n := n) (x1 := x1) (s := s) hK hS hL S.length 0 (n + 1) (by omega) (by omega)
  rw [show ((0 : Nat) : Int) = 0 from rfl, List.drop_zero] at h
  rw [noonbellref19_Ledger_Balance_eq]
  exact h

end Rf
end
