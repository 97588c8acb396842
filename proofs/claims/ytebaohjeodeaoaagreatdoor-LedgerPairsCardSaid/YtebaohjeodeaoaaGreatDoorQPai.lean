/- Texts of this work put together: Pai. -/
import Derived.Test.YtebaohjeodeaoaaGreatDoorQSums
import Derived.Test.YtebaohjeodeaoaaGreatDoorQNames

section
/- LedgerPairs: cents that go from one account to another one are on both, and nothing else is. -/
set_option linter.unusedSimpArgs false
set_option linter.unusedVariables false
set_option maxHeartbeats 2000000
namespace Rf
open Go

def nm : Nat → LK
  | 0 => [97]
  | 1 => [98]
  | _ => [99]
def nmsL : List FV := [sK (nm 0), sK (nm 1), sK (nm 2)]
theorem lt3 {j : Nat} (h : j < 3) : j = 0 ∨ j = 1 ∨ j = 2 := by omega
theorem nm_at {j : Nat} (h : j < 3) : asStr (at' nmsL j 0) = some (txt (nm j)) := by rcases lt3 h with rfl | rfl | rfl <;> rfl
theorem nm_inj {i j : Nat} (hi : i < 3) (hj : j < 3) : nm i = nm j ↔ i = j := by
  rcases lt3 hi with rfl | rfl | rfl <;> rcases lt3 hj with rfl | rfl | rfl <;> simp [nm]
theorem nm_acct (j : Nat) : acct (txt (nm j)) = true := by
  match j with
  | 0 => decide
  | 1 => decide
  | _ + 2 => show acct (txt [99]) = true; decide
theorem nm_size (j : Nat) : (txt (nm j)).size = 1 := by
  match j with
  | 0 => rfl
  | 1 => rfl
  | _ + 2 => rfl

def w3 (W : Nat → Int) : List FV := [.int .i64 (W 0), .int .i64 (W 1), .int .i64 (W 2)]
def upd (W : Nat → Int) (j : Nat) (v : Int) : Nat → Int := fun q => if q = j then v else W q
theorem w3_at {W : Nat → Int} {j : Nat} (h : j < 3) : asInt .i64 (at' (w3 W) j 0) = some (W j) := by rcases lt3 h with rfl | rfl | rfl <;> rfl
theorem w3_set {W : Nat → Int} {j : Nat} {v : Int} (h : j < 3) : List.set (w3 W) j (.int .i64 v) = w3 (upd W j v) := by rcases lt3 h with rfl | rfl | rfl <;> rfl
theorem w3_len (W : Nat → Int) : (w3 W).length = 3 := rfl

abbrev xF (x : Nat) : FV := .int .u16 (x : Int)
theorem xF_at {xs : List Nat} {i : Nat} (h : i < xs.length) : asInt .u16 (at' (xs.map xF) i 0) = some ((xs[i] : Nat) : Int) := by rw [at_map, List.getElem?_eq_getElem h]; rfl

/-- the three accounts, and no others -/
def K3 (S : LS) : Prop := ∀ p, p ∈ S → ∃ j, j < 3 ∧ p.1 = nm j
theorem K3.len {S : LS} (hA : Asc S) (h : K3 S) : S.length ≤ 3 := by
  let ix : LK → Nat := fun k => if k = [97] then 0 else if k = [98] then 1 else 2
  have hix : ∀ j, j < 3 → ix (nm j) = j := fun j hj => by rcases lt3 hj with rfl | rfl | rfl <;> rfl
  have hlt : ∀ a b, a < 3 → b < 3 → nm a < nm b → a < b := fun a b ha hb h => by
    rcases lt3 ha with rfl | rfl | rfl <;> rcases lt3 hb with rfl | rfl | rfl <;> first | omega | (exfalso; revert h; decide)
  have key : ∀ (S : LS) (lo : Nat), Asc S → K3 S → (∀ p, p ∈ S → lo ≤ ix p.1) → S.length + lo ≤ 3 ∨ S = [] := by
    intro S
    induction S with
    | nil => intro lo _ _ _; exact .inr rfl
    | cons p r ih =>
      intro lo hA hK hlo
      have hA' := List.pairwise_cons.1 hA
      obtain ⟨j, hj, hpj⟩ := hK p (by simp)
      have h1 := hlo p (by simp)
      rw [hpj, hix j hj] at h1
      left
      rcases ih (j + 1) hA'.2 (fun q hq => hK q (by simp [hq])) (fun q hq => by
        obtain ⟨j', hj', hq'⟩ := hK q (by simp [hq])
        have := hA'.1 q hq
        rw [hpj, hq'] at this
        rw [hq', hix j' hj']
        exact hlt j j' hj hj' this) with h2 | h2
      · simp; omega
      · subst h2; simp; omega
  rcases key S 0 hA h (fun p _ => Nat.zero_le _) with h1 | h1
  · omega
  · subst h1; simp

structure PInv (S : LS) (W : Nat → Int) (i : Nat) : Prop where
  asc : Asc S
  get : ∀ j, j < 3 → lget S (nm j) = W j
  key : K3 S
  lim : Lim S (i * 20000)
  bd : ∀ j, j < 3 → (W j).natAbs ≤ i * 20000

theorem PInv.led {S : LS} {W : Nat → Int} {i : Nat} (h : PInv S W i) (hi : i ≤ 256) (b : Nat) (hb : 32 ≤ b) : Led S (2 ^ b) := by
  refine ⟨h.asc, (h.lim.mono (b := 2 ^ 32) ?_).mono (pow_mono 32 b hb), by have := h.key.len h.asc; omega, fun p hp => ?_⟩
  · have : (2 : Nat) ^ 32 = 4294967296 := rfl
    omega
  · obtain ⟨j, hj, e⟩ := h.key p hp
    rw [e]
    have := nm_size j
    rw [txt_size] at this
    omega

theorem PInv.step {S : LS} {W : Nat → Int} {i f t n : Nat} (h : PInv S W i) (hf : f < 3) (ht : t < 3) (hn : n ≤ 10000) :
    PInv (lpost S [(nm f, -(n : Int)), (nm t, (n : Int))]) (upd (upd W f (W f - n)) t (upd W f (W f - n) t + n)) (i + 1) := by
  have hA1 := asc_add (nm f) (-(n : Int)) h.asc
  have e : lpost S [(nm f, -(n : Int)), (nm t, (n : Int))] = ladd (ladd S (nm f) (-(n : Int))) (nm t) (n : Int) := rfl
  have hb : ∀ j, j < 3 → (upd W f (W f - n) j).natAbs ≤ i * 20000 + n := fun j hj => by
    have h1 := h.bd j hj
    have h2 := h.bd f hf
    unfold upd
    split
    · omega
    · exact Nat.le_trans h1 (Nat.le_add_right _ _)
  refine ⟨by rw [e]; exact asc_add _ _ hA1, fun j hj => ?_, fun p hp => ?_, ?_, fun j hj => ?_⟩
  · rw [e, lget_add _ _ _ hA1, lget_add _ _ _ h.asc, lget_add _ _ _ h.asc]
    simp only [nm_inj hf ht, nm_inj ht hj, nm_inj hf hj, h.get f hf, h.get t ht, h.get j hj, upd]
    by_cases h1 : t = j
    · subst h1
      by_cases h2 : f = t
      · subst h2; simp; omega
      · simp [h2, Ne.symm h2]
    · by_cases h2 : f = j
      · subst h2; simp [h1, Ne.symm h1]; omega
      · simp [h1, h2, Ne.symm h1, Ne.symm h2]
  · have hm : p.1 ∈ (lpost S [(nm f, -(n : Int)), (nm t, (n : Int))]).map (·.1) := List.mem_map.2 ⟨p, hp, rfl⟩
    rw [lpost_mem] at hm
    rcases hm with hm | hm
    · simp only [List.map_cons, List.map_nil, List.mem_cons, List.not_mem_nil, or_false] at hm
      rcases hm with hm | hm
      · exact ⟨f, hf, hm⟩
      · exact ⟨t, ht, hm⟩
    · obtain ⟨p', hp', e'⟩ := List.mem_map.1 hm
      rw [← e']; exact h.key p' hp'
  · refine (h.lim.post (l := [(nm f, -(n : Int)), (nm t, (n : Int))])).mono ?_
    simp only [lsz, List.map_cons, List.map_nil, List.foldr_cons, List.foldr_nil]
    omega
  · have h1 := hb j hj
    have h2 := hb t ht
    unfold upd
    split
    · unfold upd at h2; omega
    · unfold upd at h1; omega

theorem pai_last {n : Nat} {xs : List Nat} {S : LS} {W : Nat → Int} {c : Int} (hxs : xs.length ≤ 256) (hI : PInv S W xs.length) : ∀ (d j m : Nat), j + d = 3 → d < m →
    noonbelllaw19_LedgerPairs.l19 (n + 2) [] m [.list 1 (xs.map xF), .list 3 (stE S), .int .i64 c, .int .i64 (xs.length : Int), .list 1 nmsL, .list 1 (w3 W), .int .i64 (j : Int)] = some [.bool true]
  | 0, j, m, hj, hm => by
    obtain ⟨m, rfl⟩ : ∃ x, m = x + 1 := ⟨m - 1, by omega⟩
    have f1 := e2_len (n + 1) (stE S) c (xs.length : Int)
    have t1 := e2_trial (n := n + 1) (c := c) (k := (xs.length : Int)) (hI.led hxs 1000001 (by omega))
    have h3 := hI.key.len hI.asc
    rw [noonbelllaw19_LedgerPairs.l19_eq, decide_eq_false (by omega), cond_false]
    rw [f1, Option.bind_some]
    simp only [List.getElem?_cons_zero, List.getElem?_cons_succ, asLst_list, asInt_int, asBool_bool, asStr_str, Option.bind_some]
    rw [List.length_map, beq_self_eq_true, cond_true]
    rw [t1, Option.bind_some]
    simp only [List.getElem?_cons_zero, List.getElem?_cons_succ, asLst_list, asInt_int, asBool_bool, asStr_str, Option.bind_some]
    rw [tL_len, decide_eq_true (by omega)]
  | d + 1, j, m, hj, hm => by
    obtain ⟨m, rfl⟩ : ∃ x, m = x + 1 := ⟨m - 1, by omega⟩
    have hlt : j < 3 := by omega
    have hl := (hI.led hxs 32 (by omega)).lim
    have f1 := e2_bal (n := n) (c := c) (k := (xs.length : Int)) (K := 32) (by omega) hl (nm j)
    rw [hI.get j hlt] at f1
    have hb := hI.bd j hlt
    have f2 := e2_ofR (n := n + 1) (z := W j) (by omega) (by omega)
    have f3 := e2_textR (n := n + 1) (z := W j) (k := 64) (by omega) (by have : (2 : Nat) ^ 64 = 18446744073709551616 := rfl
                                                                         omega)
    have ix1 : ix (j : Int) nmsL.length = some j := ix_nat hlt
    have ix2 : ix (j : Int) (w3 W).length = some j := ix_nat hlt
    rw [noonbelllaw19_LedgerPairs.l19_eq, decide_eq_true (by omega : (j : Int) < 3), cond_true]
    simp only [ix1, Option.bind_some, nm_at hlt]
    rw [f1, Option.bind_some]
    simp only [List.getElem?_cons_zero, List.getElem?_cons_succ, asLst_list, asInt_int, asBool_bool, asStr_str, Option.bind_some]
    simp only [ix2, Option.bind_some, w3_at hlt]
    rw [f2, Option.bind_some]
    simp only [List.getElem?_cons_zero, List.getElem?_cons_succ, asLst_list, asInt_int, asBool_bool, asStr_str, Option.bind_some]
    rw [f3, Option.bind_some]
    simp only [List.getElem?_cons_zero, List.getElem?_cons_succ, asLst_list, asInt_int, asBool_bool, asStr_str, Option.bind_some]
    simp only [toList_eq, decide_true, Bool.not_true, cond_false]
    rw [wrap_succ (by omega)]
    exact pai_last hxs hI d (j + 1) m (by omega) (by omega)

theorem pai_loop {n : Nat} {xs : List Nat} (hn : 10 ≤ n) (hxs : xs.length ≤ 256) (hx : ∀ x, x ∈ xs → x < 65536) : ∀ (d i m : Nat) (S : LS) (W : Nat → Int) (c : Int), i + d = xs.length → d < m → PInv S W i →
    noonbelllaw19_LedgerPairs.l7 (n + 2) [] m [.list 1 (xs.map xF), .list 3 (stE S), .int .i64 c, .int .i64 (i : Int), .list 1 nmsL, .list 1 (w3 W), .int .i64 (i : Int)] = some [.bool true]
  | 0, i, m, S, W, c, hi, hm, hI => by
    obtain ⟨m, rfl⟩ : ∃ x, m = x + 1 := ⟨m - 1, by omega⟩
    obtain rfl : i = xs.length := by omega
    have h := pai_last (n := n) (c := c) hxs hI 3 0 (n + 2) (by omega) (by omega)
    rw [show ((0 : Nat) : Int) = 0 from rfl] at h
    rw [noonbelllaw19_LedgerPairs.l7_eq, decide_eq_false (by rw [List.length_map]; omega), cond_false]
    exact h
  | d + 1, i, m, S, W, c, hi, hm, hI => by
    obtain ⟨m, rfl⟩ : ∃ x, m = x + 1 := ⟨m - 1, by omega⟩
    have hlt : i < xs.length := by omega
    have hxi := hx _ (List.getElem_mem hlt)
    have hat := xF_at hlt
    generalize xs[i] = x at hxi hat
    have ix1 : ix (i : Int) (xs.map xF).length = some i := ix_nat (by simpa using hlt)
    have ha : IntKind.wrap .i64 (x : Int) = (x : Int) := wrap64_id (by omega) (by omega)
    have hb : IntKind.wrap .i64 (Int.tdiv (x : Int) 9) = ((x / 9 : Nat) : Int) := wrap_i64_nat (x := x / 9) (by omega)
    have hc : IntKind.wrap .i64 (Int.tdiv (x : Int) 3) = ((x / 3 : Nat) : Int) := wrap_i64_nat (x := x / 3) (by omega)
    have hd : IntKind.wrap .i64 ((x / 9 : Nat) : Int) = ((x / 9 : Nat) : Int) := wrap_i64_nat (by omega)
    have he : Int.tmod (x : Int) 3 = ((x % 3 : Nat) : Int) := rfl
    have hf : Int.tmod ((x / 3 : Nat) : Int) 3 = ((x / 3 % 3 : Nat) : Int) := rfl
    have hf3 : x % 3 < 3 := Nat.mod_lt _ (by omega)
    have ht3 : x / 3 % 3 < 3 := Nat.mod_lt _ (by omega)
    have hn9 : x / 9 ≤ 10000 := by omega
    rw [noonbelllaw19_LedgerPairs.l7_eq, decide_eq_true (by rw [List.length_map]; omega), cond_true]
    simp only [ix1, Option.bind_some, hat, ha, hb, hc, hd, he, hf]
    generalize x % 3 = f at *
    generalize x / 3 % 3 = t at *
    generalize x / 9 = q at *
    have h64 : (2 : Nat) ^ 64 = 18446744073709551616 := rfl
    have f1 := e2_ofR (n := n + 1) (z := (q : Int)) (by omega) (by omega)
    have f2 := e2_negR (n := n + 1) (z := (q : Int))
    have f3 := e2_textR (n := n + 1) (z := -(q : Int)) (k := 64) (by omega) (by omega)
    have f4 := e2_textR (n := n + 1) (z := (q : Int)) (k := 64) (by omega) (by omega)
    have ixf : ix (f : Int) nmsL.length = some f := ix_nat hf3
    have ixt : ix (t : Int) nmsL.length = some t := ix_nat ht3
    have jxf : ∀ W, ix (f : Int) (w3 W).length = some f := fun W => ix_nat hf3
    have jxt : ∀ W, ix (t : Int) (w3 W).length = some t := fun W => ix_nat ht3
    have hsm := small2 (a := txt (nm f)) (b := txt (nm t)) (z := -(q : Int)) (w := (q : Int)) (by rw [nm_size]; omega) (by rw [nm_size]; omega) (by omega) (by omega)
    have hrd := rd2 (a := txt (nm f)) (b := txt (nm t)) (z := -(q : Int)) (w := (q : Int))
    rw [if_pos ⟨nm_acct f, nm_acct t⟩, if_pos (by omega), txt_data, txt_data] at hrd
    have hp := post_good (n := n + 1) (S := S) (c := c) (k := (i : Int)) (hI.led (by omega) 1000000 (by omega)) (by omega) (by omega) hsm hrd
    have hen : ∀ z, elemsOf 2 z [(0, FV.agg [.str (txt (nm f)), sF (ztext (-(q : Int)))]), (1, .agg [.str (txt (nm t)), sF (ztext (q : Int))])] = [(txt (nm f), txt (ztext (-(q : Int)))), (txt (nm t), txt (ztext (q : Int)))].map enF := fun z => rfl
    have hI' := hI.step hf3 ht3 hn9
    have hbf := hI.bd f hf3
    have hbt := hI'.bd t ht3
    have e0 : ((0 : Int) != 0) = false := rfl
    rw [f1, Option.bind_some]
    simp only [List.getElem?_cons_zero, List.getElem?_cons_succ, asLst_list, asInt_int, asBool_bool, asStr_str, Option.bind_some]
    simp only [ixf, Option.bind_some, nm_at hf3]
    rw [f2, Option.bind_some]
    simp only [List.getElem?_cons_zero, List.getElem?_cons_succ, asLst_list, asInt_int, asBool_bool, asStr_str, Option.bind_some]
    rw [f3, Option.bind_some]
    simp only [List.getElem?_cons_zero, List.getElem?_cons_succ, asLst_list, asInt_int, asBool_bool, asStr_str, Option.bind_some]
    simp only [ixt, Option.bind_some, nm_at ht3]
    rw [f4, Option.bind_some]
    simp only [List.getElem?_cons_zero, List.getElem?_cons_succ, asLst_list, asInt_int, asBool_bool, asStr_str, Option.bind_some]
    rw [hen]
    rw [hp, Option.bind_some]
    simp only [List.getElem?_cons_zero, List.getElem?_cons_succ, asLst_list, asInt_int, asBool_bool, asStr_str, Option.bind_some]
    have hwf : IntKind.wrap .i64 (W f - (q : Int)) = W f - (q : Int) := wrap64_id (by omega) (by omega)
    have hwt : IntKind.wrap .i64 (upd W f (W f - (q : Int)) t + (q : Int)) = upd W f (W f - (q : Int)) t + (q : Int) := by
      unfold upd at hbt
      rw [if_pos rfl] at hbt
      exact wrap64_id (by unfold upd; omega) (by unfold upd; omega)
    simp only [jxf, jxt, Option.bind_some, w3_at hf3, hwf, w3_set hf3, w3_at ht3, hwt, w3_set ht3, e0, cond_false]
    rw [wrap_succ (by omega)]
    exact pai_loop hn hxs hx d (i + 1) m _ _ (-1) (by omega) (by omega) hI'

theorem pairs_at {n : Nat} (hn : 300 ≤ n) {xs : List Nat} (hx : ∀ x, x ∈ xs → x < 65536) : evF En2 (n + 3) 7 [.list 1 (xs.map xF)] = some [.bool true] := by
  rw [noonbelllaw19_LedgerPairs_eq]
  by_cases h : xs.length ≤ 256
  · have f0 := e2_new (n + 1)
    have hl := pai_loop (n := n) (by omega) h hx xs.length 0 (n + 2) [] (fun _ => 0) 0 (by omega) (by omega) ⟨List.Pairwise.nil, fun _ _ => rfl, fun p hp => by simp at hp, fun p hp => by simp at hp, fun _ _ => by simp⟩
    rw [show ((0 : Nat) : Int) = 0 from rfl] at hl
    rw [decide_eq_false (by rw [List.length_map]; omega), cond_false]
    rw [f0, Option.bind_some]
    simp only [List.getElem?_cons_zero, List.getElem?_cons_succ, asLst_list, asInt_int, asBool_bool, asStr_str, Option.bind_some]
    exact hl
  · rw [decide_eq_true (by rw [List.length_map]; omega), cond_true]

theorem pairs_pure (L : List FV) (h : All2 Fits [.lst false 2 [.int .u16]] L) : ∃ n, evF En2 n 7 L = some [.bool true] := by
  obtain ⟨y1, r1, rfl, h1, h⟩ := h.cons_inv
  obtain rfl := h.nil_inv
  have rd : ∀ cs, All2 Fits [.int .u16] cs → ∃ x : Nat, mkEl false cs = xF x ∧ x < 65536 := fun cs hcs => by
    obtain ⟨y, r, rfl, hy, hr⟩ := hcs.cons_inv
    obtain rfl := hr.nil_inv
    obtain ⟨z, rfl, b1, b2⟩ := hy.int_inv
    have h1 : IntKind.u16.min = 0 := by decide
    have h2 : IntKind.u16.max = 65535 := by decide
    rw [h1] at b1
    rw [h2] at b2
    exact ⟨z.toNat, by show FV.int .u16 z = .int .u16 ((z.toNat : Nat) : Int); rw [Int.toNat_of_nonneg b1], by omega⟩
  obtain ⟨xs, rfl, _, hx⟩ := h1.lst_map xF rd
  obtain ⟨n, hn⟩ : ∃ n, 300 ≤ n := ⟨300, Nat.le_refl _⟩
  exact ⟨n + 3, pairs_at hn hx⟩

end Rf
end
