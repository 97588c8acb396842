/- Texts of this work put together: Hvy, Inv. -/
import Derived.Test.YtebaohjeodeaoaaGreatDoorMO

section
/- heavy: what is not heavy is small. -/
set_option linter.unusedSimpArgs false
set_option linter.unusedVariables false
set_option maxHeartbeats 2000000
namespace Rf
open Go

/-- a transaction as an element -/
def tF (l : EL) : FV := .list 2 (l.map enF)
theorem tF_at {ls : List EL} {i : Nat} (h : i < ls.length) : asLst 2 (at' (ls.map tF) i 0) = some ((ls[i]).map enF) := by rw [at_map, List.getElem?_eq_getElem h]; rfl

/-- all texts small -/
def SmT (l : EL) : Prop := l.length ≤ 4096 ∧ ∀ p, p ∈ l → p.1.size ≤ 4096 ∧ p.2.size ≤ 4096

theorem min_nat (a : Nat) : (if (1048576 : Int) < (a : Int) then (1048576 : Int) else (a : Int)) = ((min 1048576 a : Nat) : Int) := by
  by_cases h : (1048576 : Int) < (a : Int)
  · rw [if_pos h, Nat.min_eq_left (by omega)]; rfl
  · rw [if_neg h, Nat.min_eq_right (by omega)]

theorem hv_inner {N m0 : Nat} {ls : List EL} {i : Nat} (hi : i < ls.length) (hls : ls.length ≤ 4096) {l : EL} (hl : ls[i] = l) (hlen : l.length ≤ 4096) : ∀ (d k m a : Nat), k + d = l.length → d < m → a ≤ 10000000 →
    ∃ a' : Nat, noonbelllaw19_heavy.l7 N [m0] m [.list 1 (ls.map tF), .int .i64 (a : Int), .int .i64 (i : Int), .int .i64 (k : Int)] = noonbelllaw19_heavy.l3 N [] m0 [.list 1 (ls.map tF), .int .i64 (a' : Int), .int .i64 ((i + 1 : Nat) : Int)] ∧ a ≤ a' ∧ a' ≤ 10000000 ∧ (a' ≤ 4096 → ∀ p, p ∈ l.drop k → p.1.size ≤ 4096 ∧ p.2.size ≤ 4096)
  | 0, k, m, a, hk, hm, ha => by
    obtain ⟨m, rfl⟩ : ∃ j, m = j + 1 := ⟨m - 1, by omega⟩
    refine ⟨a, ?_, Nat.le_refl _, ha, fun _ p hp => by rw [List.drop_eq_nil_of_le (by omega)] at hp; simp at hp⟩
    rw [noonbelllaw19_heavy.l7_eq, ix_nat (by simpa using hi), Option.bind_some, tF_at hi, Option.bind_some, List.length_map, hl, decide_eq_false (by omega), cond_false, wrap_succ (by omega)]
  | d + 1, k, m, a, hk, hm, ha => by
    obtain ⟨m, rfl⟩ : ∃ j, m = j + 1 := ⟨m - 1, by omega⟩
    have hkl : k < l.length := by omega
    rw [noonbelllaw19_heavy.l7_eq, ix_nat (by simpa using hi), Option.bind_some, tF_at hi, Option.bind_some, List.length_map, hl, decide_eq_true (by omega), cond_true]
    by_cases h4 : a ≤ 4096
    · rw [decide_eq_true (by omega : (a : Int) ≤ 4096), cond_true]
      simp only [Option.bind_some, tF_at hi, hl, ix_nat (show k < (l.map enF).length by simpa using hkl), enF_at0 hkl, enF_at1 hkl, min_nat]
      have e1 : IntKind.wrap .i64 (((min 1048576 (l[k]).1.size : Nat) : Int) + ((min 1048576 (l[k]).2.size : Nat) : Int)) = ((min 1048576 (l[k]).1.size + min 1048576 (l[k]).2.size : Nat) : Int) := add_i64 (by omega)
      have e2 : IntKind.wrap .i64 ((a : Int) + ((min 1048576 (l[k]).1.size + min 1048576 (l[k]).2.size : Nat) : Int)) = ((a + (min 1048576 (l[k]).1.size + min 1048576 (l[k]).2.size) : Nat) : Int) := add_i64 (by omega)
      rw [e1, e2, wrap_succ (by omega)]
      obtain ⟨a', h1, h2, h3, h5⟩ := hv_inner (N := N) (m0 := m0) hi hls hl hlen d (k + 1) m (a + (min 1048576 (l[k]).1.size + min 1048576 (l[k]).2.size)) (by omega) (by omega) (by omega)
      refine ⟨a', h1, by omega, h3, fun h p hp => ?_⟩
      rw [List.drop_eq_getElem_cons hkl] at hp
      rcases List.mem_cons.1 hp with rfl | hp
      · omega
      · exact h5 h p hp
    · rw [decide_eq_false (by omega : ¬ (a : Int) ≤ 4096), cond_false, wrap_succ (by omega)]
      exact ⟨a, rfl, Nat.le_refl _, ha, fun h => absurd h h4⟩

theorem hv_outer {N : Nat} (hN : 4097 ≤ N) {ls : List EL} (hls : ls.length ≤ 4096) : ∀ (d i m a : Nat), i + d = ls.length → d < m → a ≤ 10000000 →
    ∃ b, noonbelllaw19_heavy.l3 N [] m [.list 1 (ls.map tF), .int .i64 (a : Int), .int .i64 (i : Int)] = some [.bool b] ∧ (b = false → a ≤ 4096 ∧ ∀ l, l ∈ ls.drop i → SmT l)
  | 0, i, m, a, hi, hm, ha => by
    obtain ⟨m, rfl⟩ : ∃ j, m = j + 1 := ⟨m - 1, by omega⟩
    refine ⟨_, by rw [noonbelllaw19_heavy.l3_eq, List.length_map, decide_eq_false (by omega : ¬ (i : Int) < (ls.length : Int)), cond_false], fun h => ⟨by have := of_decide_eq_false h; omega, fun l hl => ?_⟩⟩
    rw [List.drop_eq_nil_of_le (by omega)] at hl
    simp at hl
  | d + 1, i, m, a, hi, hm, ha => by
    obtain ⟨m, rfl⟩ : ∃ j, m = j + 1 := ⟨m - 1, by omega⟩
    have hlt : i < ls.length := by omega
    rw [noonbelllaw19_heavy.l3_eq, List.length_map, decide_eq_true (by omega : (i : Int) < (ls.length : Int)), cond_true]
    by_cases h4 : a ≤ 4096
    · rw [decide_eq_true (by omega : (a : Int) ≤ 4096), cond_true, ix_nat (by simpa using hlt), Option.bind_some, tF_at hlt, Option.bind_some, List.length_map, min_nat, show IntKind.wrap .i64 ((a : Int) + ((min 1048576 (ls[i]).length : Nat) : Int)) = ((a + min 1048576 (ls[i]).length : Nat) : Int) from add_i64 (by omega)]
      by_cases h5 : (ls[i]).length ≤ 4096
      · obtain ⟨a', h1, h2, h3, h6⟩ := hv_inner (N := N) (m0 := m) hlt hls rfl h5 (ls[i]).length 0 N (a + min 1048576 (ls[i]).length) (by omega) (by omega) (by omega)
        have h1 := h1
        rw [show ((0 : Nat) : Int) = 0 from rfl] at h1
        rw [h1]
        obtain ⟨b, g1, g2⟩ := hv_outer hN hls d (i + 1) m a' (by omega) (by omega) (by omega)
        refine ⟨b, g1, fun hb => ⟨h4, fun l hl => ?_⟩⟩
        obtain ⟨g3, g4⟩ := g2 hb
        rw [List.drop_eq_getElem_cons hlt] at hl
        rcases List.mem_cons.1 hl with rfl | hl
        · exact ⟨h5, fun p hp => h6 g3 p (by rwa [List.drop_zero])⟩
        · exact g4 l hl
      · -- too many entries: the next look stops
        obtain ⟨N', rfl⟩ : ∃ j, N = j + 1 := ⟨N - 1, by omega⟩
        have hpos : 0 < (ls[i]).length := by omega
        rw [noonbelllaw19_heavy.l7_eq, ix_nat (by simpa using hlt), Option.bind_some, tF_at hlt, Option.bind_some, List.length_map, decide_eq_true (by omega : (0 : Int) < ((ls[i]).length : Int)), cond_true, decide_eq_false (by omega : ¬ ((a + min 1048576 (ls[i]).length : Nat) : Int) ≤ 4096), cond_false, wrap_succ (by omega)]
        obtain ⟨b, g1, g2⟩ := hv_outer (N := N' + 1) hN hls d (i + 1) m (a + min 1048576 (ls[i]).length) (by omega) (by omega) (by omega)
        refine ⟨b, g1, fun hb => ?_⟩
        have := (g2 hb).1
        omega
    · rw [decide_eq_false (by omega : ¬ (a : Int) ≤ 4096), cond_false]
      exact ⟨_, rfl, fun h => by have := of_decide_eq_false h; omega⟩

/-- what is not heavy: so many transactions, so many entries, so long -/
theorem heavy_run {N : Nat} (hN : 4097 ≤ N) (ls : List EL) : ∃ b, evF En2 (N + 1) 29 [.list 1 (ls.map tF)] = some [.bool b] ∧ (b = false → ls.length ≤ 4096 ∧ ∀ l, l ∈ ls → SmT l) := by
  rw [noonbelllaw19_heavy_eq, List.length_map]
  by_cases h : ls.length ≤ 4096
  · obtain ⟨b, g1, g2⟩ := hv_outer hN h ls.length 0 N ls.length (by omega) (by omega) (by omega)
    exact ⟨b, g1, fun hb => ⟨h, fun l hl => (g2 hb).2 l (by rwa [List.drop_zero])⟩⟩
  · obtain ⟨N', rfl⟩ : ∃ j, N = j + 1 := ⟨N - 1, by omega⟩
    refine ⟨true, ?_, fun h => by cases h⟩
    rw [noonbelllaw19_heavy.l3_eq, List.length_map, decide_eq_true (by omega : (0 : Int) < (ls.length : Int)), cond_true, decide_eq_false (by omega : ¬ (ls.length : Int) ≤ 4096), cond_false, decide_eq_true (by omega : (ls.length : Int) > 4096)]

theorem SmT.small {l : EL} (h : SmT l) : smallE l = true := by
  refine List.all_eq_true.2 fun p hp => ?_
  obtain ⟨h1, h2⟩ := h.2 p hp
  simp only [Bool.and_eq_true, decide_eq_true_eq]
  omega

/-- transactions out of what fits -/
theorem trans_of {x : FV} (h : Fits (.lst false 24 [.lst true 32 [.str, .str]]) x) : ∃ ls : List EL, x = .list 1 (ls.map tF) := by
  have rdE : ∀ cs, All2 Fits [.str, .str] cs → ∃ p : ByteArray × ByteArray, mkEl true cs = enF p ∧ True := fun cs hcs => by
    obtain ⟨y1, r1, rfl, h1, hr⟩ := hcs.cons_inv
    obtain ⟨y2, r2, rfl, h2, hr⟩ := hr.cons_inv
    obtain rfl := hr.nil_inv
    obtain ⟨a, rfl, _⟩ := h1.str_inv
    obtain ⟨c, rfl, _⟩ := h2.str_inv
    exact ⟨(a, c), rfl, trivial⟩
  have rd : ∀ cs, All2 Fits [.lst true 32 [.str, .str]] cs → ∃ l : EL, mkEl false cs = tF l ∧ True := fun cs hcs => by
    obtain ⟨y, r, rfl, hy, hr⟩ := hcs.cons_inv
    obtain rfl := hr.nil_inv
    obtain ⟨l, rfl, _, _⟩ := hy.lst_map enF rdE
    exact ⟨l, rfl, trivial⟩
  obtain ⟨ls, rfl, _, _⟩ := h.lst_map tF rd
  exact ⟨ls, rfl⟩

end Rf
end

section
/- What stays so of a ledger, whatever is posted. -/
set_option linter.unusedSimpArgs false
set_option linter.unusedVariables false
set_option maxHeartbeats 2000000
namespace Rf
open Go

theorem bl_txt (a b : LK) : Op.bytesLess (txt a).toList (txt b).toList = decide (a < b) := by
  rw [Proofs.bytesLess_eq, Lib.toList_data, Lib.toList_data, txt_data, txt_data]

theorem ladd_len (k : LK) (z : Int) : ∀ S : LS, (ladd S k z).length ≤ S.length + 1
  | [] => by simp [ladd]
  | (a, x) :: r => by
    have := ladd_len k z r
    unfold ladd
    split
    · simp; omega
    · split <;> simp
theorem lpost_len : ∀ (l S : LS), (lpost S l).length ≤ S.length + l.length
  | [], S => by simp [lpost]
  | p :: l, S => by
    have h1 := lpost_len l (ladd S p.1 p.2)
    have h2 := ladd_len p.1 p.2 S
    rw [lpost_cons, List.length_cons]
    omega

theorem lsum_lim {S : LS} {M : Nat} (h : Lim S M) : (lsum S).natAbs ≤ S.length * M := by
  induction S with
  | nil => simp [lsum]
  | cons p r ih =>
    have h1 := h p (by simp)
    have h2 := ih fun q hq => h q (by simp [hq])
    simp only [lsum, List.map_cons, List.foldr_cons, List.length_cons] at h2 ⊢
    rw [Nat.add_mul]
    omega

/-- names that may be, and are not too long -/
def KA (S : LS) : Prop := ∀ p, p ∈ S → p.1.length ≤ 4096 ∧ acct (txt p.1) = true

theorem rdE_keys : ∀ {l : EL} {q : LS}, (∀ p, p ∈ l → p.1.size ≤ 4096 ∧ p.2.size ≤ 4096) → rdE l = .inr q → KA q
  | [], q, _, h => by simp only [rdE, Sum.inr.injEq] at h; subst h; exact fun p hp => by simp at hp
  | (a, c) :: r, q, hb, h => by
    simp only [rdE] at h
    split at h
    case isFalse => cases h
    rename_i ha
    cases hz : pz c.data.toList with
    | none => rw [hz] at h; cases h
    | some z =>
      rw [hz] at h
      simp only at h
      cases hr : rdE r with
      | inl e => rw [hr] at h; cases h
      | inr q' =>
        rw [hr] at h
        simp only [Sum.inr.injEq] at h
        subst h
        intro p hp
        rcases List.mem_cons.1 hp with rfl | hp
        · exact ⟨by rw [dsize]; exact (hb (a, c) (by simp)).1, ha⟩
        · exact rdE_keys (fun p hp => hb p (by simp [hp])) hr p hp

theorem SmT.bd {l : EL} {K : Nat} (hK : 16384 ≤ K) (h : SmT l) : EBd l K := fun p hp => by
  obtain ⟨h1, h2⟩ := h.2 p hp
  refine ⟨by omega, by omega, fun z hz => ?_⟩
  have h3 := pz_lt hz
  rw [dsize] at h3
  exact Nat.lt_of_lt_of_le h3 (pow_mono (4 * p.2.size) K (by omega))

structure Inv (S : LS) (i K : Nat) : Prop where
  asc : Asc S
  sum : lsum S = 0
  lim : Lim S (i * (64 * 2 ^ K))
  len : S.length ≤ 64 * i
  key : KA S

theorem Inv.nil (K : Nat) : Inv [] 0 K := ⟨List.Pairwise.nil, rfl, fun p hp => by simp at hp, by simp, fun p hp => by simp at hp⟩
theorem Inv.mono {S : LS} {i j K : Nat} (h : Inv S i K) (hij : i ≤ j) : Inv S j K := ⟨h.asc, h.sum, h.lim.mono (Nat.mul_le_mul_right _ hij), by have := h.len; omega, h.key⟩

theorem Inv.post {S : LS} {i K : Nat} (h : Inv S i K) {l : EL} {q : LS} (hb : EBd l K) (hs : SmT l) (hq : rdL l = .inr q) : Inv (lpost S q) (i + 1) K := by
  obtain ⟨h1, h2, h3⟩ := rdL_inr hq
  obtain ⟨h4, h5⟩ := rdE_lim hb h1
  have h6 := rdE_keys hs.2 h1
  have h7 := lsz_le h5
  have h8 : q.length * 2 ^ K ≤ 64 * 2 ^ K := Nat.mul_le_mul_right _ (by omega)
  refine ⟨asc_post h.asc, by rw [lsum_post, h.sum, h3]; rfl, (h.lim.post (l := q)).mono ?_, ?_, fun p hp => ?_⟩
  · rw [Nat.add_mul, Nat.one_mul]; omega
  · have := lpost_len q S
    have := h.len
    omega
  · have hm : p.1 ∈ (lpost S q).map (·.1) := List.mem_map.2 ⟨p, hp, rfl⟩
    rw [lpost_mem] at hm
    rcases hm with hm | hm
    · obtain ⟨p', hp', e⟩ := List.mem_map.1 hm
      rw [← e]; exact h6 p' hp'
    · obtain ⟨p', hp', e⟩ := List.mem_map.1 hm
      rw [← e]; exact h.key p' hp'

theorem Inv.lim2 {S : LS} {i K : Nat} (h : Inv S i K) (hi : i ≤ 15000) : Lim S (2 ^ (K + 21)) := by
  refine h.lim.mono ?_
  have h1 : 2 ^ (K + 21) = 2 ^ K * 2097152 := Nat.pow_add ..
  have h2 : i * (64 * 2 ^ K) ≤ 15000 * (64 * 2 ^ K) := Nat.mul_le_mul_right _ hi
  rw [h1]
  generalize (2 : Nat) ^ K = P at *
  omega

theorem Inv.led {S : LS} {i K : Nat} (h : Inv S i K) (hi : i ≤ 15000) (hK : K + 40 ≤ 1000000) : Led S (2 ^ 1000000) :=
  ⟨h.asc, (h.lim2 hi).mono (pow_mono (K + 21) 1000000 (by omega)), by have := h.len; omega, fun p hp => by have := (h.key p hp).1; omega⟩

theorem acct_empty : acct (txt []) = false := by decide

/-- nothing stands on the account without a name -/
theorem Inv.empty {S : LS} {i K : Nat} (h : Inv S i K) : lget S [] = 0 := by
  have key : ∀ S : LS, KA S → lget S [] = 0 := by
    intro S
    induction S with
    | nil => intro _; rfl
    | cons p r ih =>
      intro hk
      obtain ⟨a, x⟩ := p
      rw [lget, if_neg fun e => ?_]
      · exact ih fun q hq => hk q (by simp [hq])
      · have := (hk (a, x) (by simp)).2
        simp only at this
        rw [e, acct_empty] at this
        cases this
  exact key S h.key

end Rf
end
