/- Texts of this work put together: Nam. -/
import Derived.Test.YtebaohjeodeaoaaGreatDoorMO

section
/- LedgerNames: accounts whose names differ are different ones. -/
set_option linter.unusedSimpArgs false
set_option linter.unusedVariables false
set_option maxHeartbeats 2000000
namespace Rf
open Go

theorem el2 (z v0 v1 : FV) : elemsOf 2 z [(0, v0), (1, v1)] = [v0, v1] := rfl

theorem small2 {a b : ByteArray} {z w : Int} (ha : a.size ≤ 1048576) (hb : b.size ≤ 1048576) (hz : z.natAbs < 2 ^ 64) (hw : w.natAbs < 2 ^ 64) : smallE [(a, txt (ztext z)), (b, txt (ztext w))] = true := by
  have h1 := ztext_len hz
  have h2 := ztext_len hw
  simp only [smallE, List.all_cons, List.all_nil, Bool.and_true, Bool.and_eq_true, decide_eq_true_eq, txt_size]
  omega

theorem rd2 {a b : ByteArray} {z w : Int} : rdL [(a, txt (ztext z)), (b, txt (ztext w))] = if acct a = true ∧ acct b = true then (if z + w = 0 then .inr [(a.data.toList, z), (b.data.toList, w)] else .inl 191) else .inl 190 := by
  have p1 : pz (txt (ztext z)).data.toList = some z := by rw [txt_data]; exact pz_some.2 rfl
  have p2 : pz (txt (ztext w)).data.toList = some w := by rw [txt_data]; exact pz_some.2 rfl
  unfold rdL
  rw [if_neg (by simp), if_neg (by simp)]
  simp only [rdE, p1, p2]
  by_cases h1 : acct a = true
  · by_cases h2 : acct b = true
    · rw [if_pos h1, if_pos h2, if_pos ⟨h1, h2⟩]
      simp only [lsum, List.map_cons, List.map_nil, List.foldr_cons, List.foldr_nil, Int.add_zero]
    · rw [if_pos h1, if_neg h2, if_neg (fun h => h2 h.2)]
  · rw [if_neg h1, if_neg (fun h => h1 h.1)]

theorem names_at {a b : ByteArray} {x : Int} (h1 : -2147483648 ≤ x) (h2 : x ≤ 2147483647) : ∃ n, evF En2 n 6 [.str a, .str b, .int .i32 x] = some [.bool true] := by
  refine ⟨4, ?_⟩
  rw [noonbelllaw19_LedgerNames_eq]
  by_cases c1 : (a.size : Int) > 1024
  · rw [decide_eq_true c1, cond_true]
  rw [decide_eq_false c1, cond_false]
  by_cases c2 : (b.size : Int) > 1024
  · rw [decide_eq_true c2, cond_true]
  rw [decide_eq_false c2, cond_false]
  have hb : x.natAbs < 2 ^ 64 := by omega
  have hb' : (-x).natAbs < 2 ^ 64 := by omega
  have f0 := e2_new 2
  have f1 := e2_ofR (n := 2) (z := x) (by omega) (by omega)
  have f2 := e2_textR (n := 2) (z := x) (k := 64) (by omega) hb
  have f3 := e2_negR (n := 2) (z := x)
  have f4 := e2_textR (n := 2) (z := -x) (k := 64) (by omega) hb'
  have a1 := e2_acctR (n := 2) (a := a) (by omega)
  have a2 := e2_acctR (n := 2) (a := b) (by omega)
  have hsm := small2 (a := a) (b := b) (z := x) (w := -x) (by omega) (by omega) hb hb'
  have hrd := rd2 (a := a) (b := b) (z := x) (w := -x)
  have hw : IntKind.wrap .i64 x = x := wrap64_id (by omega) (by omega)
  rw [hw]
  try simp (disch := omega) only [f0, Option.bind_some, List.getElem?_cons_zero, List.getElem?_cons_succ, asLst_list, asInt_int, asBool_bool, asStr_str, cond_true, cond_false]
  try simp (disch := omega) only [f1, Option.bind_some, List.getElem?_cons_zero, List.getElem?_cons_succ, asLst_list, asInt_int, asBool_bool, asStr_str, cond_true, cond_false]
  try simp (disch := omega) only [f2, Option.bind_some, List.getElem?_cons_zero, List.getElem?_cons_succ, asLst_list, asInt_int, asBool_bool, asStr_str, cond_true, cond_false]
  try simp (disch := omega) only [f3, Option.bind_some, List.getElem?_cons_zero, List.getElem?_cons_succ, asLst_list, asInt_int, asBool_bool, asStr_str, cond_true, cond_false]
  try simp (disch := omega) only [f4, Option.bind_some, List.getElem?_cons_zero, List.getElem?_cons_succ, asLst_list, asInt_int, asBool_bool, asStr_str, cond_true, cond_false]
  try simp (disch := omega) only [el2, Option.bind_some, List.getElem?_cons_zero, List.getElem?_cons_succ, asLst_list, asInt_int, asBool_bool, asStr_str, cond_true, cond_false]
  have hen : [FV.agg [.str a, sF (ztext x)], .agg [.str b, sF (ztext (-x))]] = [(a, txt (ztext x)), (b, txt (ztext (-x)))].map enF := rfl
  rw [hen]
  by_cases g1 : acct a = true ∧ acct b = true
  · obtain ⟨g1, g2⟩ := g1
    rw [if_pos ⟨g1, g2⟩, if_pos (by omega)] at hrd
    have hp := post_good (n := 2) (S := []) (c := 0) (k := 0) (Led.nil _) (by omega) (by omega) hsm hrd
    rw [g1] at a1
    rw [g2] at a2
    have hne0 : ((0 : Int) == 0) = true := rfl
    generalize hq : lpost [] [(a.data.toList, x), (b.data.toList, -x)] = S at *
    have hq' : ladd (ladd [] a.data.toList x) b.data.toList (-x) = S := hq
    have hA : Asc S := by rw [← hq]; exact asc_post List.Pairwise.nil
    have hlim : Lim S (2 ^ 65) := by
      rw [← hq]
      refine (Lim.post (S := []) (b := 0) (fun p hp => by simp at hp)).mono ?_
      simp only [lsz, List.map_cons, List.map_nil, List.foldr_cons, List.foldr_nil]
      omega
    have hlen : S.length ≤ 2 ∧ (a.data.toList = b.data.toList → S.length = 1) ∧ (a.data.toList ≠ b.data.toList → S.length = 2) := by
      rw [← hq']
      simp only [ladd]
      by_cases e1 : a.data.toList < b.data.toList
      · rw [if_pos e1]
        exact ⟨by simp, fun e => by rw [e] at e1; exact absurd e1 (klt_irr _), fun _ => rfl⟩
      · rw [if_neg e1]
        by_cases e2 : a.data.toList = b.data.toList
        · rw [if_pos e2]
          exact ⟨by simp, fun _ => rfl, fun h => absurd e2 h⟩
        · rw [if_neg e2]
          exact ⟨by simp, fun h => absurd h e2, fun _ => rfl⟩
    have hget : ∀ q, lget S q = (if b.data.toList = q then (if a.data.toList = b.data.toList then x else 0) + -x else if a.data.toList = q then x else 0) := fun q => by
      rw [← hq', lget_add _ _ _ (asc_add _ _ List.Pairwise.nil), lget_add _ _ _ List.Pairwise.nil, lget_add _ _ _ List.Pairwise.nil]
      simp only [lget, Int.zero_add]
    have hkey : ∀ p, p ∈ S → p.1.length ≤ 1048576 := fun p hp => by
      have hm : p.1 ∈ S.map (·.1) := List.mem_map.2 ⟨p, hp, rfl⟩
      rw [← hq, lpost_mem] at hm
      simp only [List.map_cons, List.map_nil, List.mem_cons, List.not_mem_nil, or_false] at hm
      rcases hm with h | h <;> rw [h, dsize] <;> omega
    have hL : Led S (2 ^ 1000001) := ⟨hA, hlim.mono (pow_mono 65 1000001 (by omega)), by omega, hkey⟩
    have t1 := e2_trial (n := 2) (c := -1) (k := 0 + 1) hL
    have hbA := e2_bal (n := 1) (c := -1) (k := 0 + 1) (K := 65) (by omega) hlim a.data.toList
    have hbB := e2_bal (n := 1) (c := -1) (k := 0 + 1) (K := 65) (by omega) hlim b.data.toList
    have htl : (tL S).length = S.length := by simp [tL]
    rw [← str_sK] at hbA hbB
    try simp (disch := omega) only [hp, Option.bind_some, List.getElem?_cons_zero, List.getElem?_cons_succ, asLst_list, asInt_int, asBool_bool, asStr_str, cond_true, cond_false]
    try simp (disch := omega) only [a1, Option.bind_some, List.getElem?_cons_zero, List.getElem?_cons_succ, asLst_list, asInt_int, asBool_bool, asStr_str, cond_true, cond_false]
    try simp (disch := omega) only [a2, Option.bind_some, List.getElem?_cons_zero, List.getElem?_cons_succ, asLst_list, asInt_int, asBool_bool, asStr_str, cond_true, cond_false]
    try simp (disch := omega) only [hne0, Option.bind_some, List.getElem?_cons_zero, List.getElem?_cons_succ, asLst_list, asInt_int, asBool_bool, asStr_str, cond_true, cond_false]
    try simp (disch := omega) only [Bool.not_true, beq_self_eq_true, Option.bind_some, List.getElem?_cons_zero, List.getElem?_cons_succ, asLst_list, asInt_int, asBool_bool, asStr_str, cond_true, cond_false]
    rw [toList_eq]
    by_cases e : a = b
    · subst e
      rw [decide_eq_true rfl, cond_true]
      have h0 : lget S a.data.toList = 0 := by rw [hget, if_pos rfl, if_pos rfl]; omega
      rw [h0] at hbA
      try simp (disch := omega) only [hbA, Option.bind_some, List.getElem?_cons_zero, List.getElem?_cons_succ, asLst_list, asInt_int, asBool_bool, asStr_str, cond_true, cond_false]
      try simp (disch := omega) only [txt_z0, toList_eq, decide_true, Option.bind_some, List.getElem?_cons_zero, List.getElem?_cons_succ, asLst_list, asInt_int, asBool_bool, asStr_str, cond_true, cond_false]
      try simp (disch := omega) only [t1, Option.bind_some, List.getElem?_cons_zero, List.getElem?_cons_succ, asLst_list, asInt_int, asBool_bool, asStr_str, cond_true, cond_false]
      rw [List.length_map, htl, hlen.2.1 rfl]
      rfl
    · have hne : a.data.toList ≠ b.data.toList := fun h => e (by rw [← txt_of a, h, txt_of])
      rw [decide_eq_false e, cond_false]
      have h0 : lget S a.data.toList = x := by rw [hget, if_neg (Ne.symm hne), if_pos rfl]
      have h1 : lget S b.data.toList = -x := by rw [hget, if_pos rfl, if_neg hne]; omega
      rw [h0] at hbA
      rw [h1] at hbB
      try simp (disch := omega) only [hbA, Option.bind_some, List.getElem?_cons_zero, List.getElem?_cons_succ, asLst_list, asInt_int, asBool_bool, asStr_str, cond_true, cond_false]
      try simp (disch := omega) only [f2, Option.bind_some, List.getElem?_cons_zero, List.getElem?_cons_succ, asLst_list, asInt_int, asBool_bool, asStr_str, cond_true, cond_false]
      try simp (disch := omega) only [toList_eq, decide_true, Option.bind_some, List.getElem?_cons_zero, List.getElem?_cons_succ, asLst_list, asInt_int, asBool_bool, asStr_str, cond_true, cond_false]
      try simp (disch := omega) only [hbB, Option.bind_some, List.getElem?_cons_zero, List.getElem?_cons_succ, asLst_list, asInt_int, asBool_bool, asStr_str, cond_true, cond_false]
      try simp (disch := omega) only [f3, Option.bind_some, List.getElem?_cons_zero, List.getElem?_cons_succ, asLst_list, asInt_int, asBool_bool, asStr_str, cond_true, cond_false]
      try simp (disch := omega) only [f4, Option.bind_some, List.getElem?_cons_zero, List.getElem?_cons_succ, asLst_list, asInt_int, asBool_bool, asStr_str, cond_true, cond_false]
      try simp (disch := omega) only [toList_eq, decide_true, Option.bind_some, List.getElem?_cons_zero, List.getElem?_cons_succ, asLst_list, asInt_int, asBool_bool, asStr_str, cond_true, cond_false]
      try simp (disch := omega) only [t1, Option.bind_some, List.getElem?_cons_zero, List.getElem?_cons_succ, asLst_list, asInt_int, asBool_bool, asStr_str, cond_true, cond_false]
      rw [List.length_map, htl, hlen.2.2 hne]
      rfl
  · rw [if_neg g1] at hrd
    have hp := post_bad (n := 2) (S := []) (c := 0) (k := 0) (Led.nil _) (by omega) (by omega) hsm hrd
    have t1 := e2_trial (n := 2) (c := 0) (k := 0) (Led.nil _)
    have l1 := e2_len 2 (stE []) 0 0
    have hne0 : ((190 : Int) == 0) = false := rfl
    have hne1 : ((190 : Int) != 190) = false := rfl
    have hne2 : ((((tL []).map enF).length : Int) != 0) = false := rfl
    have hne3 : ((0 : Int) != 0) = false := rfl
    try simp (disch := omega) only [hp, Option.bind_some, List.getElem?_cons_zero, List.getElem?_cons_succ, asLst_list, asInt_int, asBool_bool, asStr_str, cond_true, cond_false]
    try simp (disch := omega) only [a1, Option.bind_some, List.getElem?_cons_zero, List.getElem?_cons_succ, asLst_list, asInt_int, asBool_bool, asStr_str, cond_true, cond_false]
    cases h1' : acct a with
    | false =>
      try simp (disch := omega) only [hne0, hne1, Bool.not_true, beq_self_eq_true, Option.bind_some, List.getElem?_cons_zero, List.getElem?_cons_succ, asLst_list, asInt_int, asBool_bool, asStr_str, cond_true, cond_false]
      try simp (disch := omega) only [t1, Option.bind_some, List.getElem?_cons_zero, List.getElem?_cons_succ, asLst_list, asInt_int, asBool_bool, asStr_str, cond_true, cond_false]
      try simp (disch := omega) only [hne2, Option.bind_some, List.getElem?_cons_zero, List.getElem?_cons_succ, asLst_list, asInt_int, asBool_bool, asStr_str, cond_true, cond_false]
      try simp (disch := omega) only [l1, Option.bind_some, List.getElem?_cons_zero, List.getElem?_cons_succ, asLst_list, asInt_int, asBool_bool, asStr_str, cond_true, cond_false]
      try simp (disch := omega) only [hne3, Option.bind_some, List.getElem?_cons_zero, List.getElem?_cons_succ, asLst_list, asInt_int, asBool_bool, asStr_str, cond_true, cond_false]
    | true =>
      have h2' : acct b = false := by
        cases h : acct b with
        | false => rfl
        | true => exact absurd ⟨h1', h⟩ g1
      rw [h2'] at a2
      try simp (disch := omega) only [a2, Option.bind_some, List.getElem?_cons_zero, List.getElem?_cons_succ, asLst_list, asInt_int, asBool_bool, asStr_str, cond_true, cond_false]
      try simp (disch := omega) only [hne0, hne1, Bool.not_true, Bool.not_false, beq_self_eq_true, Option.bind_some, List.getElem?_cons_zero, List.getElem?_cons_succ, asLst_list, asInt_int, asBool_bool, asStr_str, cond_true, cond_false]
      try simp (disch := omega) only [t1, Option.bind_some, List.getElem?_cons_zero, List.getElem?_cons_succ, asLst_list, asInt_int, asBool_bool, asStr_str, cond_true, cond_false]
      try simp (disch := omega) only [hne2, Option.bind_some, List.getElem?_cons_zero, List.getElem?_cons_succ, asLst_list, asInt_int, asBool_bool, asStr_str, cond_true, cond_false]
      try simp (disch := omega) only [l1, Option.bind_some, List.getElem?_cons_zero, List.getElem?_cons_succ, asLst_list, asInt_int, asBool_bool, asStr_str, cond_true, cond_false]
      try simp (disch := omega) only [hne3, Option.bind_some, List.getElem?_cons_zero, List.getElem?_cons_succ, asLst_list, asInt_int, asBool_bool, asStr_str, cond_true, cond_false]

theorem names_pure (L : List FV) (h : All2 Fits [.str, .str, .int .i32] L) : ∃ n, evF En2 n 6 L = some [.bool true] := by
  obtain ⟨y1, r1, rfl, h1, h⟩ := h.cons_inv
  obtain ⟨y2, r2, rfl, h2, h⟩ := h.cons_inv
  obtain ⟨y3, r3, rfl, h3, h⟩ := h.cons_inv
  obtain rfl := h.nil_inv
  obtain ⟨a, rfl, _⟩ := h1.str_inv
  obtain ⟨b, rfl, _⟩ := h2.str_inv
  obtain ⟨x, rfl, b1, b2⟩ := h3.int_inv
  exact names_at b1 b2

end Rf
end
