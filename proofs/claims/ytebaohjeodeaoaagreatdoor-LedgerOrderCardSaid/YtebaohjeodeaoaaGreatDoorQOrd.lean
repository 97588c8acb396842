/- Texts of this work put together: Ord2, Odr. -/
import Derived.Test.YtebaohjeodeaoaaGreatDoorQRle

section
/- LedgerOrder: in whatever order, and back again. -/
set_option linter.unusedSimpArgs false
set_option linter.unusedVariables false
set_option maxHeartbeats 2000000
namespace Rf
open Go

/-- what a transaction puts on -/
noncomputable def qs (l : EL) : LS := match rdL l with | .inl _ => [] | .inr q => q
noncomputable def gn (l : EL) : Nat := match rdL l with | .inl _ => 0 | .inr _ => 1
noncomputable def cat (ls : List EL) : LS := ls.flatMap qs
noncomputable def cnt (ls : List EL) : Nat := (ls.map gn).foldr (· + ·) 0

theorem cnt_app (a b : List EL) : cnt (a ++ b) = cnt a + cnt b := by
  induction a with
  | nil => simp [cnt]
  | cons p r ih => simp only [cnt, List.cons_append, List.map_cons, List.foldr_cons] at ih ⊢; omega
theorem cnt_le (a : List EL) : cnt a ≤ a.length := by
  induction a with
  | nil => simp [cnt]
  | cons p r ih =>
    have : gn p ≤ 1 := by unfold gn; split <;> omega
    simp only [cnt, List.map_cons, List.foldr_cons, List.length_cons] at ih ⊢
    omega
theorem cnt_take {ls : List EL} {i : Nat} (h : i < ls.length) : cnt (ls.take (i + 1)) = cnt (ls.take i) + gn (ls[i]) := by
  rw [List.take_add_one, List.getElem?_eq_getElem h, Option.toList_some, cnt_app]
  simp [cnt]
theorem cnt_drop {ls : List EL} {i : Nat} (h : i < ls.length) : cnt (ls.drop i) = cnt (ls.drop (i + 1)) + gn (ls[i]) := by
  rw [List.drop_eq_getElem_cons h]
  simp only [cnt, List.map_cons, List.foldr_cons]
  omega
theorem cat_take {ls : List EL} {i : Nat} (h : i < ls.length) : lpost [] (cat (ls.take (i + 1))) = lpost (lpost [] (cat (ls.take i))) (qs (ls[i])) := by
  rw [List.take_add_one, List.getElem?_eq_getElem h, Option.toList_some]
  unfold cat
  rw [List.flatMap_append, lpost_app]
  simp
theorem cat_drop {ls : List EL} {i : Nat} (h : i < ls.length) : lpost [] (cat (ls.drop i)) = lpost (lpost [] (cat (ls.drop (i + 1)))) (qs (ls[i])) := by
  rw [List.drop_eq_getElem_cons h, ← lpost_app]
  unfold cat
  rw [List.flatMap_cons]
  exact lpost_perm List.perm_append_comm List.Pairwise.nil

theorem post_any {n a K : Nat} {S : LS} {c : Int} {k : Nat} {l : EL} (hI : Inv S a K) (ha : a ≤ 13000) (hK1 : 16384 ≤ K) (hK : K + 50 ≤ 1000000) (hk : k ≤ 1000000) (hs : SmT l) :
    (∃ c', evF En2 (n + 1) 22 [.list 3 (stE S), .int .i64 c, .int .i64 (k : Int), .list 2 (l.map enF)] = some [.list 3 (stE (lpost S (qs l))), .int .i64 c', .int .i64 ((k + gn l : Nat) : Int), .int .i64 (rdC l)]) ∧ Inv (lpost S (qs l)) (a + 1) K := by
  have hL := hI.led (by omega) (by omega)
  unfold qs gn rdC
  cases hr : rdL l with
  | inl e => exact ⟨⟨c, post_bad hL (by omega) (by omega) hs.small hr⟩, hI.mono (by omega)⟩
  | inr q => exact ⟨⟨-1, post_good hL (by omega) (by omega) hs.small hr⟩, hI.post (hs.bd hK1) hs hr⟩

theorem ref_fresh {n K : Nat} {l : EL} (hK : K + 60 ≤ 1000000) (hb : EBd l K) (hn : 300000 ≤ n) :
    ∃ es x, evF En2 (n + 3) 34 [.list 3 [], .int .i64 0, .list 2 (l.map enF)] = some [.list 3 es, .int .i64 x, .int .i64 (rdC l)] := by
  unfold rdC
  cases hr : rdL l with
  | inl e => exact ⟨_, _, refpost_bad (S := []) (x1 := 0) (K := K) (by omega) hb (by omega) hr⟩
  | inr q =>
    exact ⟨_, _, refpost_good (S := []) (x1 := 0) (K := K) (KK := K + 30) (M := 0) (B := 0) (by omega) (by
      have h1 : 2 ^ (K + 30) = 2 ^ K * 1073741824 := Nat.pow_add 2 K 30
      rw [h1]
      generalize (2 : Nat) ^ K = P at *
      omega) (by omega) hb (by omega) (by omega) List.Pairwise.nil (fun p hp => by simp at hp) (by simp) hr⟩

/-! ### and back -/
def neg (q : LS) : LS := q.map fun p => (p.1, -p.2)
/-- what stands on an account in it -/
def lsk (q : LS) (k : LK) : Int := (q.map fun p => if p.1 = k then p.2 else 0).foldr (· + ·) 0
theorem lget_post (k : LK) : ∀ {q S : LS}, Asc S → lget (lpost S q) k = lget S k + lsk q k
  | [], S, _ => by simp [lpost, lsk]
  | p :: q, S, h => by
    rw [lpost_cons, lget_post k (asc_add _ _ h), lget_add _ _ _ h]
    simp only [lsk, List.map_cons, List.foldr_cons]
    by_cases e : p.1 = k
    · rw [if_pos e, if_pos e, e]; omega
    · rw [if_neg e, if_neg e]; omega
theorem lsk_neg (q : LS) (k : LK) : lsk (neg q) k = - lsk q k := by
  induction q with
  | nil => rfl
  | cons p r ih =>
    simp only [lsk, neg, List.map_cons, List.foldr_cons] at ih ⊢
    rw [ih]
    by_cases e : p.1 = k
    · rw [if_pos e, if_pos e]; omega
    · rw [if_neg e, if_neg e]; omega
theorem lsum_neg (q : LS) : lsum (neg q) = - lsum q := by
  induction q with
  | nil => rfl
  | cons p r ih =>
    simp only [lsum, neg, List.map_cons, List.foldr_cons] at ih ⊢
    rw [ih]; omega
theorem neg_keys (q : LS) : (neg q).map (·.1) = q.map (·.1) := by unfold neg; rw [List.map_map]; rfl

theorem back_same {S q : LS} (hA : Asc S) (hm : ∀ k, k ∈ q.map (·.1) → k ∈ S.map (·.1)) : lpost (lpost S q) (neg q) = S := by
  refine asc_ext (asc_post (asc_post hA)) hA (fun k => ?_) fun k => ?_
  · rw [lpost_mem, lpost_mem, neg_keys]
    constructor
    · rintro (h | h | h)
      · exact hm k h
      · exact hm k h
      · exact h
    · exact fun h => Or.inr (Or.inr h)
  · rw [lget_post k (asc_post hA), lget_post k hA, lsk_neg]; omega

/-- the entries whose cents can be read, with the other sign -/
noncomputable def bk (l : EL) : EL := l.filterMap fun p => (pz p.2.data.toList).map fun z => (p.1, txt (ztext (-z)))
theorem bk_cons_some {p : ByteArray × ByteArray} {r : EL} {z : Int} (h : pz p.2.data.toList = some z) : bk (p :: r) = (p.1, txt (ztext (-z))) :: bk r := by
  unfold bk; rw [List.filterMap_cons, h]; rfl
theorem bk_cons_none {p : ByteArray × ByteArray} {r : EL} (h : pz p.2.data.toList = none) : bk (p :: r) = bk r := by
  unfold bk; rw [List.filterMap_cons, h]; rfl
theorem bk_le (l : EL) : (bk l).length ≤ l.length := List.length_filterMap_le _ _
theorem bk_all {l : EL} (h : (bk l).length = l.length) : ∀ p, p ∈ l → ∃ z, pz p.2.data.toList = some z := by
  induction l with
  | nil => exact fun p hp => by simp at hp
  | cons q r ih =>
    cases hz : pz q.2.data.toList with
    | none =>
      rw [bk_cons_none hz] at h
      have := bk_le r
      simp only [List.length_cons] at h
      omega
    | some z =>
      rw [bk_cons_some hz] at h
      simp only [List.length_cons, Nat.add_right_cancel_iff] at h
      intro p hp
      rcases List.mem_cons.1 hp with rfl | hp
      · exact ⟨z, hz⟩
      · exact ih h p hp
theorem rdE_bk : ∀ {l : EL}, (∀ p, p ∈ l → ∃ z, pz p.2.data.toList = some z) → rdE (bk l) = match rdE l with | .inl e => .inl e | .inr q => .inr (neg q)
  | [], _ => rfl
  | (a, c) :: r, h => by
    obtain ⟨z, hz⟩ := h (a, c) (by simp)
    simp only at hz
    rw [bk_cons_some hz]
    have p1 : pz (txt (ztext (-z))).data.toList = some (-z) := by rw [txt_data]; exact pz_some.2 rfl
    have ih := rdE_bk (l := r) fun p hp => h p (List.mem_cons_of_mem _ hp)
    simp only [rdE, p1, hz, ih]
    by_cases ha : acct a = true
    · rw [if_pos ha, if_pos ha]
      cases rdE r with
      | inl e => rfl
      | inr q => rfl
    · rw [if_neg ha, if_neg ha]
theorem rdL_bk {l : EL} (h : (bk l).length = l.length) : rdL (bk l) = match rdL l with | .inl e => .inl e | .inr q => .inr (neg q) := by
  have hE := rdE_bk (bk_all h)
  unfold rdL
  rw [h, hE]
  by_cases h0 : l.length = 0
  · rw [if_pos h0, if_pos h0]
  rw [if_neg h0, if_neg h0]
  by_cases h1 : 64 < l.length
  · rw [if_pos h1, if_pos h1]
  rw [if_neg h1, if_neg h1]
  cases rdE l with
  | inl e => rfl
  | inr q =>
    simp only [lsum_neg]
    by_cases h2 : lsum q = 0
    · rw [if_pos (by omega), if_pos h2]
    · rw [if_neg (by omega), if_neg h2]
theorem bk_small {l : EL} {K : Nat} (hs : SmT l) (hb : EBd l K) (hK : K ≤ 1000000) : smallE (bk l) = true := by
  refine List.all_eq_true.2 fun p hp => ?_
  unfold bk at hp
  obtain ⟨p', hp', e⟩ := List.mem_filterMap.1 hp
  obtain ⟨h1, h2⟩ := hs.2 p' hp'
  cases hz : pz p'.2.data.toList with
  | none => rw [hz] at e; cases e
  | some z =>
    rw [hz, Option.map_some, Option.some.injEq] at e
    subst e
    have h3 := (hb p' hp').2.2 z hz
    have h4 := ztext_len (z := -z) (k := K) (by omega)
    simp only [Bool.and_eq_true, decide_eq_true_eq, txt_size]
    omega
theorem bk_take {l : EL} {j : Nat} (h : j < l.length) : bk (l.take (j + 1)) = bk (l.take j) ++ bk [l[j]] := by
  rw [List.take_add_one, List.getElem?_eq_getElem h, Option.toList_some]
  exact List.filterMap_append ..

end Rf
end

section
/- LedgerOrder: the law's loops. -/
set_option linter.unusedSimpArgs false
set_option linter.unusedVariables false
set_option maxHeartbeats 2000000
namespace Rf
open Go

/-! what is read, as laws that are not by unfolding alone -/
theorem xb {α β : Type} (a : α) (f : α → Option β) : Option.bind (some a) f = f a := id rfl
theorem xg0 {α : Type} (a : α) (l : List α) : (a :: l)[0]? = some a := id rfl
theorem xgs {α : Type} (a : α) (l : List α) (i : Nat) : (a :: l)[i + 1]? = l[i]? := List.getElem?_cons_succ
theorem xl (k : Nat) (l : List FV) : asLst k (some (.list k l)) = some l := id (asLst_list ..)
theorem xi (k : IntKind) (x : Int) : asInt k (some (.int k x)) = some x := id (asInt_int ..)
theorem xo (b : Bool) : asBool (some (.bool b)) = some b := id rfl

/-- there and back: the ledger is as it was -/
theorem back_inner {n m0 : Nat} {ls : List EL} {S : LS} {k x4 : Nat} {c x3 : Int} {e3 : List FV} {i a K : Nat} (hI : Inv S a K) (ha : a ≤ 4500) (hK1 : 16384 ≤ K) (hK : K + 60 ≤ 1000000) (hk : k + 2 ≤ 1000000) (hi : i < ls.length) (hil : ls.length ≤ 4096) {l : EL} (hl : ls[i] = l) (hs : SmT l) (hm : ∀ x, x ∈ (qs l).map (·.1) → x ∈ S.map (·.1)) : ∀ (d j m : Nat), j + d = l.length → d < m →
    ∃ c' k', k' ≤ k + 2 ∧ noonbelllaw19_LedgerOrder.l23 (n + 1) [m0] m [.list 1 (ls.map tF), .list 3 (stE S), .int .i64 c, .int .i64 (k : Int), .list 3 e3, .int .i64 x3, .int .i64 (x4 : Int), .int .i64 (i : Int), .list 2 ((bk (l.take j)).map enF), .int .i64 (j : Int)] =
      noonbelllaw19_LedgerOrder.l19 (n + 1) [] m0 [.list 1 (ls.map tF), .list 3 (stE S), .int .i64 c', .int .i64 ((k' : Nat) : Int), .list 3 e3, .int .i64 x3, .int .i64 (x4 : Int), .int .i64 ((i + 1 : Nat) : Int)]
  | 0, j, m, hj, hm' => by
    obtain ⟨m, rfl⟩ : ∃ x, m = x + 1 := ⟨m - 1, by omega⟩
    have ix1 : ix (i : Int) (ls.map tF).length = some i := ix_nat (by simpa using hi)
    have hb := hs.bd (K := K) hK1
    rw [noonbelllaw19_LedgerOrder.l23_eq, ix1, Option.bind_some, tF_at hi, Option.bind_some, hl, List.length_map, decide_eq_false (by omega), cond_false, List.take_of_length_le (by omega), List.length_map]
    simp only [ix1, Option.bind_some, tF_at hi, hl, List.length_map]
    by_cases h : (bk l).length = l.length
    · rw [show (((bk l).length : Int) == (l.length : Int)) = true by rw [h]; exact beq_self_eq_true _, cond_true]
      obtain ⟨⟨c1, g1⟩, g2⟩ := post_any (n := n) (c := c) (k := k) hI (by omega) hK1 (by omega) (by omega) hs
      have hq := rdL_bk h
      have hL2 := g2.led (by omega) (by omega)
      have hsm := bk_small hs hb (by omega)
      rw [g1, Option.bind_some]
      simp only [List.getElem?_cons_zero, List.getElem?_cons_succ, asLst_list, asInt_int, asBool_bool, asStr_str, Option.bind_some]
      cases hr : rdL l with
      | inl e =>
        rw [hr] at hq
        have he := rdL_ne hr
        have g3 := post_bad (n := n) (c := c1) (k := ((k + gn l : Nat) : Int)) hL2 (by omega) (by unfold gn; split <;> omega) hsm hq
        have e1 : rdC l = e := by unfold rdC; rw [hr]
        have e2 : qs l = [] := by unfold qs; rw [hr]
        have e3' : gn l = 0 := by unfold gn; rw [hr]
        rw [e1]
        rw [g3, Option.bind_some]
        simp only [List.getElem?_cons_zero, List.getElem?_cons_succ, asLst_list, asInt_int, asBool_bool, asStr_str, Option.bind_some]
        rw [beq_self_eq_true, Bool.not_true, cond_false, wrap_succ (by omega), e2, e3']
        exact ⟨c1, k, by omega, rfl⟩
      | inr q =>
        rw [hr] at hq
        have g3 := post_good (n := n) (c := c1) (k := ((k + gn l : Nat) : Int)) hL2 (by omega) (by unfold gn; split <;> omega) hsm hq
        have e1 : rdC l = 0 := by unfold rdC; rw [hr]
        have e2 : qs l = q := by unfold qs; rw [hr]
        have e3' : gn l = 1 := by unfold gn; rw [hr]
        rw [e2] at hm
        have hS := back_same hI.asc hm
        rw [e2, hS] at g3
        rw [e1, e2]
        rw [g3, Option.bind_some]
        simp only [List.getElem?_cons_zero, List.getElem?_cons_succ, asLst_list, asInt_int, asBool_bool, asStr_str, Option.bind_some]
        rw [beq_self_eq_true, Bool.not_true, cond_false, wrap_succ (by omega), e3']
        exact ⟨-1, k + 2, by omega, rfl⟩
    · rw [show (((bk l).length : Int) == (l.length : Int)) = false by simpa using (fun e => h (Int.ofNat.inj e) : ¬ ((bk l).length : Int) = (l.length : Int)), cond_false, wrap_succ (by omega)]
      exact ⟨c, k, by omega, rfl⟩
  | d + 1, j, m, hj, hm' => by
    obtain ⟨m, rfl⟩ : ∃ x, m = x + 1 := ⟨m - 1, by omega⟩
    have hlt : j < l.length := by omega
    have hll := hs.1
    have hb := hs.bd (K := K) hK1
    obtain ⟨b1, b2, b3⟩ := hb _ (List.getElem_mem hlt)
    have ix1 : ix (i : Int) (ls.map tF).length = some i := ix_nat (by simpa using hi)
    have ix2 : ix (j : Int) (l.map enF).length = some j := ix_nat (by simpa using hlt)
    have ih := back_inner (n := n) (m0 := m0) (c := c) (k := k) (x3 := x3) (x4 := x4) (e3 := e3) hI ha hK1 hK hk hi hil hl hs hm d (j + 1) m (by omega) (by omega)
    rw [bk_take hlt] at ih
    rw [noonbelllaw19_LedgerOrder.l23_eq, ix1, Option.bind_some, tF_at hi, Option.bind_some, hl, List.length_map, decide_eq_true (by omega), cond_true]
    simp only [ix1, Option.bind_some, tF_at hi, hl, ix2, enF_at1 hlt, enF_at0 hlt]
    cases hz : pz (l[j]).2.data.toList with
    | none =>
      have f1 := e2_parseR_bad (n := n) hz (by omega)
      rw [bk_cons_none hz, show bk [] = [] from rfl, List.append_nil] at ih
      rw [f1, Option.bind_some]
      simp only [List.getElem?_cons_zero, List.getElem?_cons_succ, asLst_list, asInt_int, asBool_bool, asStr_str, Option.bind_some]
      rw [show ((10 : Int) == 0) = false from rfl, cond_false, wrap_succ (by omega)]
      exact ih
    | some z =>
      have hzb := b3 z hz
      have f1 := e2_parseR (n := n) hz (by omega)
      have f2 := e2_negR (n := n) (z := z)
      have f3 := e2_textR (n := n) (z := -z) (k := K) (by omega) (by omega)
      rw [bk_cons_some hz, show bk [] = [] from rfl, List.map_append] at ih
      have hle := bk_le (l.take j)
      rw [List.length_take] at hle
      rw [f1, Option.bind_some]
      simp only [List.getElem?_cons_zero, List.getElem?_cons_succ, asLst_list, asInt_int, asBool_bool, asStr_str, Option.bind_some]
      rw [show ((0 : Int) == 0) = true from rfl, cond_true]
      rw [f2, Option.bind_some]
      simp only [List.getElem?_cons_zero, List.getElem?_cons_succ, asLst_list, asInt_int, asBool_bool, asStr_str, Option.bind_some]
      rw [f3, Option.bind_some]
      simp only [List.getElem?_cons_zero, List.getElem?_cons_succ, asLst_list, asInt_int, asBool_bool, asStr_str, Option.bind_some]
      rw [show Nat.ble _ 4398046511104 = true from Nat.ble_eq_true_of_le (by rw [el_one, List.length_map]; simp; omega), cond_true, el_one, wrap_succ (by omega)]
      exact ih

theorem back_loop {n : Nat} {ls : List EL} {S : LS} {K x4 : Nat} {x3 : Int} (hn : 300000 ≤ n) (hK1 : 16384 ≤ K) (hK : K + 60 ≤ 1000000) (hls : ls.length ≤ 4096) (hsm : ∀ l, l ∈ ls → SmT l) (hI : Inv S 4500 K) (hm : ∀ l, l ∈ ls → ∀ x, x ∈ (qs l).map (·.1) → x ∈ S.map (·.1)) : ∀ (d i m k : Nat) (c : Int), i + d = ls.length → d < m → k + 2 * d ≤ 20000 →
    noonbelllaw19_LedgerOrder.l19 (n + 1) [] m [.list 1 (ls.map tF), .list 3 (stE S), .int .i64 c, .int .i64 (k : Int), .list 3 (stE S), .int .i64 x3, .int .i64 (x4 : Int), .int .i64 (i : Int)] = some [.bool true]
  | 0, i, m, k, c, hi, hm', hk => by
    obtain ⟨m, rfl⟩ : ∃ x, m = x + 1 := ⟨m - 1, by omega⟩
    have hL := (hI.led (by omega) (by omega)).up
    have t1 := e2_trial (n := n) (c := c) (k := (k : Int)) hL
    have t2 := e2_trial (n := n) (c := x3) (k := (x4 : Int)) hL
    have t3 := e2_same (n := n) (l := tL S) (by have := hI.len; simp [tL]; omega)
    rw [noonbelllaw19_LedgerOrder.l19_eq, List.length_map, decide_eq_false (by omega), cond_false]
    rw [t1, Option.bind_some]
    simp only [List.getElem?_cons_zero, List.getElem?_cons_succ, asLst_list, asInt_int, asBool_bool, asStr_str, Option.bind_some]
    rw [t2, Option.bind_some]
    simp only [List.getElem?_cons_zero, List.getElem?_cons_succ, asLst_list, asInt_int, asBool_bool, asStr_str, Option.bind_some]
    rw [t3, Option.bind_some]
    simp only [List.getElem?_cons_zero, List.getElem?_cons_succ, asLst_list, asInt_int, asBool_bool, asStr_str, Option.bind_some]
  | d + 1, i, m, k, c, hi, hm', hk => by
    obtain ⟨m, rfl⟩ : ∃ x, m = x + 1 := ⟨m - 1, by omega⟩
    have hlt : i < ls.length := by omega
    have hs := hsm _ (List.getElem_mem hlt)
    obtain ⟨c', k', g1, g2⟩ := back_inner (n := n) (m0 := m) (c := c) (k := k) (x3 := x3) (x4 := x4) (e3 := stE S) hI (by omega) hK1 hK (by omega) hlt hls rfl hs (hm _ (List.getElem_mem hlt)) (ls[i]).length 0 (n + 1) (by omega) (by have := hs.1; omega)
    rw [List.take_zero, show bk [] = [] from rfl, List.map_nil, show ((0 : Nat) : Int) = 0 from rfl] at g2
    rw [noonbelllaw19_LedgerOrder.l19_eq, decide_eq_true (by simpa using hlt : (i : Int) < ((ls.map tF).length : Int)), cond_true, show ∀ z, elemsOf 0 z [] = [] from fun _ => rfl, g2]
    exact back_loop hn hK1 hK hls hsm hI hm d (i + 1) m k' c' (by omega) (by omega) (by omega)

theorem bwd_end {n m k : Nat} {ls : List EL} {S : LS} {K : Nat} (hn : 300000 ≤ n) (hK1 : 16384 ≤ K) (hK : K + 60 ≤ 1000000) (hls : ls.length ≤ 4096) (hsm : ∀ l, l ∈ ls → SmT l) {c ca : Int} (hIa : Inv S ls.length K) (hc : k ≤ ls.length) (hm : ∀ l, l ∈ ls → ∀ x, x ∈ (qs l).map (·.1) → x ∈ S.map (·.1)) :
    noonbelllaw19_LedgerOrder.l13 (n + 1) [] (m + 1) [.list 1 (ls.map tF), .list 3 (stE S), .int .i64 ca, .int .i64 (k : Int), .list 3 (stE S), .int .i64 c, .int .i64 (k : Int), .int .i64 (((0 : Nat) : Int) - 1)] = some [.bool true] := by
  have hI := hIa.mono (show ls.length ≤ 4500 by omega)
  have hL := (hI.led (by omega) (by omega)).up
  have t1 := e2_trial (n := n) (c := ca) (k := (k : Int)) hL
  have t2 := e2_trial (n := n) (c := c) (k := (k : Int)) hL
  have t3 := e2_same (n := n) (l := tL S) (by have := hI.len; simp [tL]; omega)
  have t4 := e2_len n (stE S) ca (k : Int)
  have t5 := e2_len n (stE S) c (k : Int)
  have hb := back_loop (n := n) (x3 := c) (x4 := k) hn hK1 hK hls hsm hI hm ls.length 0 (n + 1) k ca (by omega) (by omega) (by omega)
  rw [show ((0 : Nat) : Int) = 0 from rfl] at hb
  rw [noonbelllaw19_LedgerOrder.l13_eq, show decide (((0 : Nat) : Int) - 1 ≥ 0) = false from rfl, cond_false]
  rw [t1, xb]
  simp only [xg0, xgs, xl, xi, xo, xb]
  rw [t2, xb]
  simp only [xg0, xgs, xl, xi, xo, xb]
  rw [t3, xb, xg0, xo, xb, Bool.not_true, cond_false]
  rw [t4, xb]
  simp only [xg0, xgs, xl, xi, xo, xb]
  rw [t5, xb]
  simp only [xg0, xgs, xl, xi, xo, xb]
  rw [show ((k : Int) != (k : Int)) = false by simp, cond_false]
  rw [hb]

theorem bwd_loop {n : Nat} {ls : List EL} {K : Nat} (hn : 300000 ≤ n) (hK1 : 16384 ≤ K) (hK : K + 60 ≤ 1000000) (hls : ls.length ≤ 4096) (hsm : ∀ l, l ∈ ls → SmT l) {ca : Int} (hIa : Inv (lpost [] (cat ls)) ls.length K) : ∀ (i m : Nat) (c : Int), i ≤ ls.length → i < m → Inv (lpost [] (cat (ls.drop i))) (ls.length - i) K →
    noonbelllaw19_LedgerOrder.l13 (n + 1) [] m [.list 1 (ls.map tF), .list 3 (stE (lpost [] (cat ls))), .int .i64 ca, .int .i64 ((cnt ls : Nat) : Int), .list 3 (stE (lpost [] (cat (ls.drop i)))), .int .i64 c, .int .i64 ((cnt (ls.drop i) : Nat) : Int), .int .i64 ((i : Int) - 1)] = some [.bool true]
  | 0, m, c, hi, hm, hI => by
    obtain ⟨m, rfl⟩ : ∃ x, m = x + 1 := ⟨m - 1, by omega⟩
    rw [List.drop_zero]
    exact bwd_end hn hK1 hK hls hsm hIa (cnt_le ls) fun l hl x hx => by
      rw [lpost_mem]
      left
      obtain ⟨p, hp, e⟩ := List.mem_map.1 hx
      exact List.mem_map.2 ⟨p, List.mem_flatMap.2 ⟨l, hl, hp⟩, e⟩
  | i + 1, m, c, hi, hm, hI => by
    obtain ⟨m, rfl⟩ : ∃ x, m = x + 1 := ⟨m - 1, by omega⟩
    have hlt : i < ls.length := by omega
    have hs := hsm _ (List.getElem_mem hlt)
    have ei : ((i + 1 : Nat) : Int) - 1 = (i : Int) := by omega
    have ix1 : ix (i : Int) (ls.map tF).length = some i := ix_nat (by simpa using hlt)
    have hc := cnt_le (ls.drop (i + 1))
    rw [List.length_drop] at hc
    obtain ⟨⟨c', g1⟩, g2⟩ := post_any (n := n) (c := c) (k := cnt (ls.drop (i + 1))) hI (by omega) hK1 (by omega) (by omega) hs
    rw [← cat_drop hlt] at g1 g2
    rw [← cnt_drop hlt] at g1
    rw [noonbelllaw19_LedgerOrder.l13_eq, ei, decide_eq_true (by omega : (i : Int) ≥ 0), cond_true, ix1, Option.bind_some, tF_at hlt, Option.bind_some]
    rw [g1, Option.bind_some]
    simp only [List.getElem?_cons_zero, List.getElem?_cons_succ, asLst_list, asInt_int, asBool_bool, asStr_str, Option.bind_some]
    rw [show IntKind.wrap .i64 ((i : Int) - 1) = (i : Int) - 1 from wrap64_id (by omega) (by omega)]
    exact bwd_loop hn hK1 hK hls hsm hIa i m c' (by omega) (by omega) (by rw [show ls.length - i = ls.length - (i + 1) + 1 by omega]; exact g2)

theorem cat0 : lpost [] (cat []) = [] := id rfl
theorem cnt0 : ((cnt [] : Nat) : Int) = 0 := id rfl

theorem fwd_loop {n : Nat} {ls : List EL} {K : Nat} (hn : 300000 ≤ n) (hK1 : 16384 ≤ K) (hK : K + 60 ≤ 1000000) (hls : ls.length ≤ 4096) (hsm : ∀ l, l ∈ ls → SmT l) : ∀ (d i m : Nat) (c : Int), i + d = ls.length → d < m → Inv (lpost [] (cat (ls.take i))) i K →
    noonbelllaw19_LedgerOrder.l6 (n + 3) [] m [.list 1 (ls.map tF), .list 3 (stE (lpost [] (cat (ls.take i)))), .int .i64 c, .int .i64 ((cnt (ls.take i) : Nat) : Int), .list 3 (stE []), .int .i64 0, .int .i64 0, .int .i64 (i : Int)] = some [.bool true]
  | 0, i, m, c, hi, hm, hI => by
    obtain ⟨m, rfl⟩ : ∃ x, m = x + 1 := ⟨m - 1, by omega⟩
    obtain rfl : i = ls.length := by omega
    rw [List.take_length] at hI ⊢
    have h := bwd_loop (n := n + 2) (ca := c) (by omega) hK1 hK hls hsm hI ls.length (n + 3) 0 (by omega) (by omega) (by rw [List.drop_length, cat0]; exact (Inv.nil K).mono (by omega))
    rw [List.drop_length, cat0, cnt0] at h
    rw [noonbelllaw19_LedgerOrder.l6_eq, List.length_map, decide_eq_false (by omega), cond_false, show IntKind.wrap .i64 ((ls.length : Int) - 1) = (ls.length : Int) - 1 from wrap64_id (by omega) (by omega)]
    rw [h]
  | d + 1, i, m, c, hi, hm, hI => by
    obtain ⟨m, rfl⟩ : ∃ x, m = x + 1 := ⟨m - 1, by omega⟩
    have hlt : i < ls.length := by omega
    have hs := hsm _ (List.getElem_mem hlt)
    have hb := hs.bd (K := K) hK1
    have ix1 : ix (i : Int) (ls.map tF).length = some i := ix_nat (by simpa using hlt)
    have hc := cnt_le (ls.take i)
    rw [List.length_take] at hc
    obtain ⟨⟨c', g1⟩, g2⟩ := post_any (n := n + 2) (c := c) (k := cnt (ls.take i)) hI (by omega) hK1 (by omega) (by omega) hs
    obtain ⟨es, x, g3⟩ := ref_fresh (n := n) (l := ls[i]) (K := K) hK hb hn
    rw [← cat_take hlt] at g1 g2
    rw [← cnt_take hlt] at g1
    rw [noonbelllaw19_LedgerOrder.l6_eq, decide_eq_true (by simpa using hlt : (i : Int) < ((ls.map tF).length : Int)), cond_true]
    simp only [ix1, Option.bind_some, tF_at hlt]
    rw [g1, Option.bind_some]
    simp only [List.getElem?_cons_zero, List.getElem?_cons_succ, asLst_list, asInt_int, asBool_bool, asStr_str, Option.bind_some]
    rw [g3, Option.bind_some]
    simp only [List.getElem?_cons_zero, List.getElem?_cons_succ, asLst_list, asInt_int, asBool_bool, asStr_str, Option.bind_some]
    rw [show (rdC (ls[i]) != rdC (ls[i])) = false by simp, cond_false, wrap_succ (by omega)]
    exact fwd_loop hn hK1 hK hls hsm d (i + 1) m c' (by omega) (by omega) g2

theorem order_at {n : Nat} (hn : 300000 ≤ n) (ls : List EL) : evF En2 (n + 4) 9 [.list 1 (ls.map tF)] = some [.bool true] := by
  obtain ⟨b, g1, g2⟩ := heavy_run (N := n + 2) (by omega) ls
  have f0 := e2_new (n + 2)
  rw [noonbelllaw19_LedgerOrder_eq]
  rw [g1, xb]
  simp only [xg0, xgs, xl, xi, xo, xb]
  cases b with
  | true => rw [cond_true]
  | false =>
    obtain ⟨g3, g4⟩ := g2 rfl
    rw [cond_false]
    obtain ⟨K, hK1, hK2⟩ : ∃ K, 16384 ≤ K ∧ K + 60 ≤ 1000000 := ⟨16384, by omega, by omega⟩
    have h := fwd_loop (n := n) (K := K) hn hK1 hK2 g3 g4 ls.length 0 (n + 3) 0 (by omega) (by omega) (by rw [List.take_zero, cat0]; exact Inv.nil _)
    rw [show ((0 : Nat) : Int) = 0 from rfl, List.take_zero, cat0, cnt0] at h
    rw [f0, xb]
    simp only [xg0, xgs, xl, xi, xo, xb]
    rw [h]

theorem order_pure (L : List FV) (h : All2 Fits [.lst false 24 [.lst true 32 [.str, .str]]] L) : ∃ n, evF En2 n 9 L = some [.bool true] := by
  obtain ⟨y1, r1, rfl, h1, h⟩ := h.cons_inv
  obtain rfl := h.nil_inv
  obtain ⟨ls, rfl⟩ := trans_of h1
  obtain ⟨n, hn⟩ : ∃ n, 300000 ≤ n := ⟨300000, Nat.le_refl _⟩
  exact ⟨n + 4, order_at hn ls⟩

end Rf
end
