/- ResultLinks: the law. -/
import Derived.Test.YtecinekkgnhhoaaLinks
set_option linter.unusedSimpArgs false
namespace Rf
open Go

section
variable {bs : List Blk} {ac : List Bool}

theorem l17_run (hl : ac.length = bs.length) (hb : bs.length ≤ 140737488351232) (n p : Nat) (b : Blk) : ∀ (d i m : Nat) (met alone : Bool), i + d = bs.length → d < m →
    ∃ met' alone' : Bool, (met' = true ↔ (met = true ∨ ∃ k c, i ≤ k ∧ Acc bs ac k c ∧ c.who = b.who ∧ c.seq = b.parent)) ∧
      (alone' = true ↔ (alone = true ∧ ¬ ∃ k c, i ≤ k ∧ k ≠ p ∧ Acc bs ac k c ∧ c.who = b.who ∧ 0 < b.group ∧ c.group = b.group)) ∧
      noonbelllaw16_ResultLinks.l17 n [] m [.str b.who, .int .i64 b.seq, .int .i64 b.zone, .bool b.buy, .int .i64 b.price, .list 1 b.qty, .int .i64 b.parent, .int .i64 b.group, .list 8 (bs.map Blk.fv), .int .i64 (p : Int), .list 1 (ac.map .bool), .bool met, .bool alone, .int .i64 (i : Int)] =
        (evF En n 9 [.list 8 (bs.map Blk.fv), .list 1 (ac.map .bool)]).bind fun r => (asBool r[0]?).bind fun c => bif met' then some [.bool (c == alone')] else some [.bool (c == false)]
  | 0, i, m + 1, met, alone, hi, hm => by
    have : i = bs.length := by omega
    subst this
    have no : ∀ {k c}, bs.length ≤ k → ¬ Acc bs ac k c := fun hk h => absurd (List.getElem?_eq_some_iff.1 h.1).1 (by omega)
    refine ⟨met, alone, ⟨.inl, fun h => h.elim id fun ⟨k, c, hk, h, _⟩ => (no hk h).elim⟩, ⟨fun h => ⟨h, fun ⟨k, c, hk, _, h, _⟩ => no hk h⟩, fun h => h.1⟩, ?_⟩
    rw [noonbelllaw16_ResultLinks.l17_eq]
    simp
  | d + 1, i, m + 1, met, alone, hi, hm => by
    have hib : i < bs.length := by omega
    have hia : i < ac.length := by omega
    have hbi : bs[i]? = some bs[i] := List.getElem?_eq_getElem hib
    have hai : ac[i]? = some ac[i] := List.getElem?_eq_getElem hia
    have hlt : decide ((i : Int) < ((bs.map Blk.fv).length : Int)) = true := by simpa using hib
    have hix : ix (i : Int) (bs.map Blk.fv).length = some i := ix_nat (by simpa using hib)
    have hix2 : ix (i : Int) (ac.map FV.bool).length = some i := ix_nat (by simpa using hia)
    -- what the rest tells
    have go : ∀ (met1 alone1 : Bool) (x : Res), x = noonbelllaw16_ResultLinks.l17 n [] m [.str b.who, .int .i64 b.seq, .int .i64 b.zone, .bool b.buy, .int .i64 b.price, .list 1 b.qty, .int .i64 b.parent, .int .i64 b.group, .list 8 (bs.map Blk.fv), .int .i64 (p : Int), .list 1 (ac.map .bool), .bool met1, .bool alone1, .int .i64 ((i + 1 : Nat) : Int)] →
        (met1 = true ↔ (met = true ∨ (ac[i] = true ∧ bs[i].who = b.who ∧ bs[i].seq = b.parent))) → (alone1 = true ↔ (alone = true ∧ ¬ (ac[i] = true ∧ i ≠ p ∧ bs[i].who = b.who ∧ 0 < b.group ∧ bs[i].group = b.group))) →
        ∃ met' alone' : Bool, (met' = true ↔ (met = true ∨ ∃ k c, i ≤ k ∧ Acc bs ac k c ∧ c.who = b.who ∧ c.seq = b.parent)) ∧
          (alone' = true ↔ (alone = true ∧ ¬ ∃ k c, i ≤ k ∧ k ≠ p ∧ Acc bs ac k c ∧ c.who = b.who ∧ 0 < b.group ∧ c.group = b.group)) ∧
          x = (evF En n 9 [.list 8 (bs.map Blk.fv), .list 1 (ac.map .bool)]).bind fun r => (asBool r[0]?).bind fun c => bif met' then some [.bool (c == alone')] else some [.bool (c == false)] := by
      intro met1 alone1 x hx h1 h2
      obtain ⟨met', alone', q1, q2, q3⟩ := l17_run hl hb n p b d (i + 1) m met1 alone1 (by omega) (by omega)
      refine ⟨met', alone', ?_, ?_, hx.trans q3⟩
      · rw [q1, h1]
        constructor
        · rintro ((h | ⟨a1, a2, a3⟩) | ⟨k, c, hk, h⟩)
          · exact .inl h
          · exact .inr ⟨i, _, Nat.le_refl _, (acc_dec hib hia).2 a1, a2, a3⟩
          · exact .inr ⟨k, c, by omega, h⟩
        · rintro (h | ⟨k, c, hk, h, a2, a3⟩)
          · exact .inl (.inl h)
          · rcases Nat.eq_or_lt_of_le hk with rfl | hk
            · have := h.1; rw [hbi] at this; cases this
              exact .inl (.inr ⟨(acc_dec hib hia).1 h, a2, a3⟩)
            · exact .inr ⟨k, c, hk, h, a2, a3⟩
      · rw [q2, h2]
        constructor
        · rintro ⟨⟨a1, a2⟩, a3⟩
          refine ⟨a1, ?_⟩
          rintro ⟨k, c, hk, hp, h, w⟩
          rcases Nat.eq_or_lt_of_le hk with rfl | hk
          · have := h.1; rw [hbi] at this; cases this
            exact a2 ⟨(acc_dec hib hia).1 h, hp, w⟩
          · exact a3 ⟨k, c, hk, hp, h, w⟩
        · rintro ⟨a1, a2⟩
          exact ⟨⟨a1, fun ⟨b1, b2, b3⟩ => a2 ⟨i, _, Nat.le_refl _, b2, (acc_dec hib hia).2 b1, b3⟩⟩, fun ⟨k, c, hk, h⟩ => a2 ⟨k, c, by omega, h⟩⟩
    rw [noonbelllaw16_ResultLinks.l17_eq]
    simp only [hlt, cond_true, hix, hix2, Option.bind_some, at_map, hbi, hai, Blk.fv, FV.cells, List.getElem?_cons_zero, List.getElem?_cons_succ, asStr_str, asInt_int, asBool_bool, toList_eq]
    rw [wrap_succ (by omega)]
    have hx : ((i : Int) != (p : Int)) = decide (i ≠ p) := by rw [Bool.eq_iff_iff]; simp; omega
    have hgg' : (bs[i].group == b.group) = decide (bs[i].group = b.group) := by rw [Bool.eq_iff_iff]; simp
    have hs' : (bs[i].seq == b.parent) = decide (bs[i].seq = b.parent) := by rw [Bool.eq_iff_iff]; simp
    simp only [hx, hgg', hs', gt_iff_lt]
    clear hlt hix hix2 hbi
    generalize bs[i].group = g1 at *
    generalize bs[i].seq = s1 at *
    generalize bs[i].who = w1 at *
    clear hai hx hgg' hs'
    generalize ac[i] = a1 at *
    cases a1 with
    | false =>
      simp only [cond_false]
      exact go met alone _ rfl (by simp) (by simp)
    | true =>
      obtain ⟨cw, hw⟩ : ∃ q, decide (w1 = b.who) = q := ⟨_, rfl⟩
      obtain ⟨ci, hi'⟩ : ∃ q, decide (i ≠ p) = q := ⟨_, rfl⟩
      obtain ⟨cg, hg⟩ : ∃ q, decide (0 < b.group) = q := ⟨_, rfl⟩
      obtain ⟨cgg, hgg⟩ : ∃ q, decide (g1 = b.group) = q := ⟨_, rfl⟩
      obtain ⟨cs, hs⟩ : ∃ q, decide (s1 = b.parent) = q := ⟨_, rfl⟩
      simp only [hw, hi', hg, hgg, hs, cond_true]
      cases cw <;> cases ci <;> cases cg <;> cases cgg <;> cases cs <;> simp only [cond_true, cond_false] <;>
        simp only [decide_eq_true_eq, decide_eq_false_iff_not, ne_eq, Decidable.not_not] at hw hi' hg hgg hs <;>
        first
        | exact go true false _ rfl (by simp [hw, hi', hg, hgg, hs]) (by simp [hw, hi', hg, hgg, hs])
        | exact go true alone _ rfl (by simp [hw, hi', hg, hgg, hs]) (by simp [hw, hi', hg, hgg, hs])
        | exact go met false _ rfl (by simp [hw, hi', hg, hgg, hs]) (by simp [hw, hi', hg, hgg, hs])
        | exact go met alone _ rfl (by simp [hw, hi', hg, hgg, hs]) (by simp [hw, hi', hg, hgg, hs])

theorem acc_set {p i : Nat} {v : Bool} {c : Blk} (hp : p < ac.length) : Acc bs (ac.set p v) i c ↔ (if i = p then bs[i]? = some c ∧ v = true else Acc bs ac i c) := by
  unfold Acc
  split
  · rename_i h; subst h; rw [List.getElem?_set_self hp]; simp
  · rename_i h; rw [List.getElem?_set_ne (Ne.symm h)]

/-- one more accepted, where all was well: all is well just where its parent is met, and its group free -/
theorem one_more {p : Nat} {b : Blk} (hp : p < ac.length) (hb : bs[p]? = some b) (h : ∀ j, OkAt bs (ac.set p false) j) :
    (∀ j, OkAt bs (ac.set p true) j) ↔ (b.parent ≤ 0 ∨ ∃ k c, Acc bs (ac.set p true) k c ∧ c.who = b.who ∧ c.seq = b.parent) ∧ ¬ ∃ k c, k ≠ p ∧ Acc bs (ac.set p true) k c ∧ c.who = b.who ∧ 0 < b.group ∧ c.group = b.group := by
  have hacc : Acc bs (ac.set p true) p b := by rw [acc_set hp, if_pos rfl]; exact ⟨hb, rfl⟩
  have up : ∀ {k c}, Acc bs (ac.set p false) k c → Acc bs (ac.set p true) k c := fun {k c} q => by
    rw [acc_set hp] at q ⊢
    split at q
    · simp at q
    · rename_i hk; rw [if_neg hk]; exact q
  have down : ∀ {k c}, k ≠ p → Acc bs (ac.set p true) k c → Acc bs (ac.set p false) k c := fun {k c} hk q => by
    rw [acc_set hp, if_neg hk] at q ⊢; exact q
  constructor
  · intro h2
    obtain ⟨q1, q2⟩ := h2 p b hacc
    exact ⟨q1, fun ⟨k, c, k1, k2, k3, k4, k5⟩ => q2 k c k1 k2 k3 k4 k5⟩
  · rintro ⟨h1, h2⟩ j c hj
    by_cases hjp : j = p
    · subst hjp
      have : c = b := by have := hj.1; rw [hb] at this; cases this; rfl
      subst this
      exact ⟨h1, fun k d k1 k2 k3 k4 k5 => h2 ⟨k, d, k1, k2, k3, k4, k5⟩⟩
    · obtain ⟨q1, q2⟩ := h j c (down hjp hj)
      refine ⟨q1.imp id fun ⟨k, d, a1, a2⟩ => ⟨k, d, up a1, a2⟩, fun k d k1 k2 k3 k4 k5 => ?_⟩
      by_cases hkp : k = p
      · subst hkp
        have : d = b := by have := k2.1; rw [hb] at this; cases this; rfl
        subst this
        exact h2 ⟨j, c, hjp, hj, k3.symm, by rw [k5]; exact k4, k5.symm⟩
      · exact q2 k d k1 (down hkp k2) k3 k4 k5

theorem at_index {x : Int} {n : Nat} (h0 : 0 < n) (h1 : n ≤ 12) : ∃ k : Nat, k < n ∧ Int.tmod (IntKind.wrap .i64 (Int.tmod x (n : Int) + (n : Int))) (n : Int) = (k : Int) := by
  have a1 := Int.lt_tmod_of_pos x (show (0 : Int) < (n : Int) by omega)
  have a2 := Int.tmod_lt_of_pos x (show (0 : Int) < (n : Int) by omega)
  rw [wrap64_id (by omega) (by omega)]
  rw [Int.tmod_eq_emod_of_nonneg (by omega)]
  have b1 := Int.emod_nonneg (Int.tmod x (n : Int) + (n : Int)) (show (n : Int) ≠ 0 by omega)
  have b2 := Int.emod_lt_of_pos (Int.tmod x (n : Int) + (n : Int)) (show (0 : Int) < (n : Int) by omega)
  exact ⟨((Int.tmod x (n : Int) + (n : Int)) % (n : Int)).toNat, by omega, by omega⟩

theorem links_true (x : Int) : evF En 30 3 [.list 8 (bs.map Blk.fv), .list 1 (ac.map .bool), .int .i64 x] = some [.bool true] := by
  rw [noonbelllaw16_ResultLinks_eq]
  simp only [List.length_map]
  by_cases h12 : bs.length > 12
  · simp [show ((bs.length : Int) > 12) by omega]
  rw [show decide ((bs.length : Int) > 12) = false by simp; omega, cond_false]
  by_cases hl : ac.length = bs.length
  case neg =>
    have : ((ac.length : Int) != (bs.length : Int)) = true := by rw [bne_iff_ne]; omega
    rw [this, cond_true]
  rw [show ((ac.length : Int) != (bs.length : Int)) = false by simp [hl], cond_false]
  by_cases h0 : bs.length = 0
  · simp [h0]
  rw [show ((bs.length : Int) == 0) = false from beq_eq_false_iff_ne.2 (by omega), cond_false, show decide ((bs.length : Int) = 0) = false from decide_eq_false (by omega), cond_false, cond_false]
  obtain ⟨k, hk, he⟩ := at_index (x := x) (n := bs.length) (by omega) (by omega)
  rw [he]
  have hel : elemsOf 0 (.bool false) [] = [] := rfl
  simp only [hel, List.nil_append, List.length_nil, List.length_map, Nat.zero_add]
  rw [show Nat.ble ac.length 140737488355328 = true from Nat.ble_eq_true_of_le (by omega), cond_true]
  have hkb : k < bs.length := hk
  have hka : k < ac.length := by omega
  have hmk : mkLen 1 (bs.length : Int) = some bs.length := by unfold mkLen; rw [if_pos ⟨by omega, by omega, by omega⟩]; rfl
  have hset : ∀ v (l : List Bool), List.set (l.map FV.bool) k (.bool v) = (l.set k v).map FV.bool := fun v l => by rw [List.map_set]
  have hrep : List.replicate bs.length (FV.bool false) = (List.replicate bs.length false).map FV.bool := by simp
  simp only [ix_nat hka, hmk, bd_nat (Nat.le_refl bs.length), Option.bind_some, hset, hrep]
  -- none accepted
  obtain ⟨r0, hr0, hi0⟩ := linked_run (bs := bs) (ac := List.replicate bs.length false) (by simp) (by omega) (n := 29) (by omega)
  have : r0 = true := hi0.2 fun j b hb => by
    have := hb.2
    rw [List.getElem?_replicate] at this
    split at this <;> simp at this
  subst this
  rw [hr0]
  simp only [Option.bind_some, List.getElem?_cons_zero, asBool_bool, Bool.not_true, cond_false]
  -- with this one not accepted
  obtain ⟨r1, hr1, hi1⟩ := linked_run (bs := bs) (ac := ac.set k false) (by simpa using hl) (by omega) (n := 29) (by omega)
  obtain ⟨r2, hr2, hi2⟩ := ref_run (bs := bs) (ac := ac.set k false) (by simpa using hl) (by omega) (n := 29) (by omega)
  have h12' : r1 = r2 := by rw [Bool.eq_iff_iff, hi1, hi2]
  subst h12'
  rw [hr1, hr2]
  simp only [Option.bind_some, List.getElem?_cons_zero, asBool_bool, beq_self_eq_true, Bool.not_true, cond_false]
  cases r1 with
  | false => simp
  | true =>
    have hall := hi1.1 rfl
    have hbk : bs[k]? = some bs[k] := List.getElem?_eq_getElem hkb
    simp only [Bool.not_true, cond_false, List.length_map, List.length_set, ix_nat hka, ix_nat hkb, Option.bind_some, at_map, hbk, Blk.fv, FV.cells, List.getElem?_cons_zero, List.getElem?_cons_succ, asStr_str, asInt_int, asBool_bool, asLst_list]
    obtain ⟨met, alone, q1, q2, q3⟩ := l17_run (bs := bs) (ac := (ac.set k false).set k true) (by simpa using hl) (by omega) 29 k bs[k] bs.length 0 29 (decide (bs[k].parent ≤ 0)) true (by omega) (by omega)
    have hss : (ac.set k false).set k true = ac.set k true := by rw [List.set_set]
    rw [hset, hss]
    rw [hss] at q1 q2 q3
    obtain ⟨r3, hr3, hi3⟩ := linked_run (bs := bs) (ac := ac.set k true) (by simpa using hl) (by omega) (n := 29) (by omega)
    rw [hr3] at q3
    simp only [Option.bind_some, List.getElem?_cons_zero, asBool_bool] at q3
    refine q3.trans ?_
    have hm := one_more hka hbk hall
    have e1 : met = true ↔ (bs[k].parent ≤ 0 ∨ ∃ k' c, Acc bs (ac.set k true) k' c ∧ c.who = bs[k].who ∧ c.seq = bs[k].parent) := by
      rw [q1]; simp
    have e2 : alone = true ↔ ¬ ∃ k' c, k' ≠ k ∧ Acc bs (ac.set k true) k' c ∧ c.who = bs[k].who ∧ 0 < bs[k].group ∧ c.group = bs[k].group := by
      rw [q2]; simp
    rw [← hi3, ← e1, ← e2] at hm
    clear hi3 e1 e2 q1 q2 q3 hr3 hr0 hr1 hr2 hi0 hi1 hi2 hall
    revert hm
    cases met <;> cases alone <;> cases r3 <;> simp

end

theorem links_pure (L : List FV) (h : All2 Fits [.lst true 88 blkShp, .lst false 1 [.bool], .int .i64] L) : ∃ n, evF En n 3 L = some [.bool true] := by
  obtain ⟨x1, r1, rfl, h1, h⟩ := h.cons_inv
  obtain ⟨x2, r2, rfl, h2, h⟩ := h.cons_inv
  obtain ⟨x3, r3, rfl, h3, h⟩ := h.cons_inv
  obtain rfl := h.nil_inv
  obtain ⟨bs, rfl, _, _⟩ := h1.lst_map Blk.fv (R := fun _ => True) fun cs hcs => blk_of hcs
  obtain ⟨ac, rfl, _, _⟩ := h2.lst_map FV.bool (R := fun _ => True) fun cs hcs => by
    obtain ⟨y, r, rfl, hy, hr⟩ := hcs.cons_inv
    obtain rfl := hr.nil_inv
    obtain ⟨b, rfl⟩ := hy.bool_inv
    exact ⟨b, rfl, trivial⟩
  obtain ⟨x, rfl, _⟩ := h3.int_inv
  exact ⟨30, links_true x⟩

end Rf
