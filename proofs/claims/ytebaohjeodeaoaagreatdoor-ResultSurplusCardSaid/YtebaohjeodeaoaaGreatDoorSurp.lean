import Derived.Test.YtebaohjeodeaoaaGreatDoorRefR
import Derived.Test.YtebaohjeodeaoaaGreatDoorEqSurp

section
/- ResultSurplus: what an accepted block gains. -/
set_option linter.unusedSimpArgs false
set_option linter.unusedVariables false
set_option maxHeartbeats 2000000
namespace Rf
open Go

/-- a row of texts, as a leaf -/
abbrev rowF (r : List (List UInt8)) : FV := .list 1 (r.map sF)
abbrev iF (z : Int) : FV := .int .i64 z

theorem rowF_at {P : List (List (List UInt8))} {i : Nat} (h : i < P.length) : at' (P.map rowF) i 0 = some (.list 1 (P[i].map sF)) := by rw [at_map, List.getElem?_eq_getElem h]; rfl
theorem iF_at {q : List Int} {i : Nat} (h : i < q.length) : at' (q.map iF) i 0 = some (.int .i64 q[i]) := by rw [at_map, List.getElem?_eq_getElem h]; rfl

/-- from some fuel on, for all of a list -/
theorem uniform {α : Type} {Q : Nat → α → Prop} : ∀ (P : List α), (∀ r, r ∈ P → ∃ n0, ∀ n, n0 ≤ n → Q n r) → ∃ n0, ∀ r, r ∈ P → ∀ n, n0 ≤ n → Q n r
  | [], _ => ⟨0, fun r h => by simp at h⟩
  | x :: P, h => by
    obtain ⟨n1, h1⟩ := uniform P fun r hr => h r (List.mem_cons_of_mem _ hr)
    obtain ⟨n2, h2⟩ := h x List.mem_cons_self
    refine ⟨n1 + n2, fun r hr n hn => ?_⟩
    rcases List.mem_cons.1 hr with rfl | hr
    · exact h2 n (by omega)
    · exact h1 r hr n (by omega)

theorem min_nat (a b : Nat) : (if (a : Int) < (b : Int) then (a : Int) else (b : Int)) = ((min a b : Nat) : Int) := by
  split <;> omega

/-! ### long: so few texts, so short -/
/-- these are few, and short -/
def Few (r : List (List UInt8)) : Prop := r.length ≤ 256 ∧ ∀ t, t ∈ r → t.length ≤ 256

theorem long_loop {n : Nat} {r : List (List UInt8)} (hl : r.length ≤ 9000000000000000) : ∀ (d i m v : Nat), i + d = r.length → d < m → v ≤ 1048576 + 256 →
    ∃ w : Nat, noonbelllaw16_long.l3 n [] m [rowF r, .int .i64 (v : Int), .int .i64 (i : Int)] = some [.int .i64 (w : Int)] ∧ w ≤ 1048576 + 256 ∧ v ≤ w ∧ (w ≤ 256 → ∀ t, t ∈ r.drop i → t.length ≤ 256) := by
  intro d
  induction d with
  | zero =>
    intro i m v hi hm hv
    obtain ⟨m, rfl⟩ : ∃ k, m = k + 1 := ⟨m - 1, by omega⟩
    refine ⟨v, ?_, hv, Nat.le_refl _, fun _ t ht => ?_⟩
    · rw [noonbelllaw16_long.l3_eq, List.length_map, decide_eq_false (by omega), cond_false]
    · rw [List.drop_of_length_le (by omega)] at ht; simp at ht
  | succ d ih =>
    intro i m v hi hm hv
    obtain ⟨m, rfl⟩ : ∃ k, m = k + 1 := ⟨m - 1, by omega⟩
    have hir : i < r.length := by omega
    rw [noonbelllaw16_long.l3_eq, List.length_map, decide_eq_true (by omega), cond_true]
    by_cases h : v ≤ 256
    · obtain ⟨w, h1, h2, h3, h4⟩ := ih (i + 1) m (v + min 1048576 r[i].length) (by omega) (by omega) (by omega)
      refine ⟨w, ?_, h2, by omega, fun hw t ht => ?_⟩
      · rw [decide_eq_true (by omega), cond_true, ix_nat hir, Option.bind_some, sF_at hir, asStr_str, Option.bind_some, txt_size, show (1048576 : Int) = ((1048576 : Nat) : Int) from rfl, min_nat, add_i64 (by omega), wrap_succ (by omega)]
        exact h1
      · rw [List.drop_eq_getElem_cons hir] at ht
        rcases List.mem_cons.1 ht with rfl | ht
        · omega
        · exact h4 hw t ht
    · refine ⟨v, ?_, hv, Nat.le_refl _, fun hw => by omega⟩
      rw [decide_eq_false (by omega), cond_false]

theorem long_ev {r : List (List UInt8)} (hl : r.length ≤ 9000000000000000) : ∃ w : Nat, Ev En 11 [rowF r] [.int .i64 (w : Int)] ∧ w ≤ 1048576 + 256 ∧ (w ≤ 256 → Few r) := by
  have key : ∀ n, r.length < n → ∃ w : Nat, noonbelllaw16_long.l3 n [] n [rowF r, .int .i64 ((min 1048576 r.length : Nat) : Int), .int .i64 0] = some [.int .i64 (w : Int)] ∧ w ≤ 1048576 + 256 ∧ min 1048576 r.length ≤ w ∧ (w ≤ 256 → ∀ t, t ∈ r.drop 0 → t.length ≤ 256) :=
    fun n hn => long_loop hl r.length 0 n _ (by omega) hn (by omega)
  have det : ∀ n, r.length < n → ∀ m, r.length < m → noonbelllaw16_long.l3 n [] n [rowF r, .int .i64 ((min 1048576 r.length : Nat) : Int), .int .i64 0] = noonbelllaw16_long.l3 m [] m [rowF r, .int .i64 ((min 1048576 r.length : Nat) : Int), .int .i64 0] := by
    have gen : ∀ (d i v m m' n n' : Nat), i + d = r.length → d < m → d < m' → v ≤ 1048576 + 256 → noonbelllaw16_long.l3 n [] m [rowF r, .int .i64 (v : Int), .int .i64 (i : Int)] = noonbelllaw16_long.l3 n' [] m' [rowF r, .int .i64 (v : Int), .int .i64 (i : Int)] := by
      intro d
      induction d with
      | zero =>
        intro i v m m' n n' hi hm hm' hv
        obtain ⟨m, rfl⟩ : ∃ k, m = k + 1 := ⟨m - 1, by omega⟩
        obtain ⟨m', rfl⟩ : ∃ k, m' = k + 1 := ⟨m' - 1, by omega⟩
        rw [noonbelllaw16_long.l3_eq, noonbelllaw16_long.l3_eq, List.length_map, decide_eq_false (by omega), cond_false, cond_false]
      | succ d ih =>
        intro i v m m' n n' hi hm hm' hv
        obtain ⟨m, rfl⟩ : ∃ k, m = k + 1 := ⟨m - 1, by omega⟩
        obtain ⟨m', rfl⟩ : ∃ k, m' = k + 1 := ⟨m' - 1, by omega⟩
        have hir : i < r.length := by omega
        rw [noonbelllaw16_long.l3_eq, noonbelllaw16_long.l3_eq, List.length_map, decide_eq_true (by omega), cond_true, cond_true]
        by_cases h : v ≤ 256
        · rw [decide_eq_true (by omega), cond_true, cond_true, ix_nat hir, Option.bind_some, Option.bind_some, sF_at hir, asStr_str, Option.bind_some, Option.bind_some, txt_size, show (1048576 : Int) = ((1048576 : Nat) : Int) from rfl, min_nat, add_i64 (by omega), wrap_succ (by omega)]
          exact ih (i + 1) _ m m' n n' (by omega) (by omega) (by omega) (by omega)
        · rw [decide_eq_false (by omega), cond_false, cond_false]
    intro n hn m hm
    exact gen r.length 0 _ n m n m (by omega) hn hm (by omega)
  obtain ⟨w, h1, h2, h3, h4⟩ := key (r.length + 1) (by omega)
  refine ⟨w, Ev.of (r.length + 1) fun n hn => ?_, h2, fun hw => ⟨by omega, fun t ht => h4 hw t (by simpa using ht)⟩⟩
  rw [noonbelllaw16_long_eq, List.length_map, show (1048576 : Int) = ((1048576 : Nat) : Int) from rfl, min_nat, det n (by omega) (r.length + 1) (by omega)]
  exact h1

/-! ### what is summed up -/
/-- the sum over the hours; none: a text is none -/
noncomputable def sumR (pc : Rat) : List (List UInt8) → List Int → Rat → Option Rat
  | t :: ts, q :: qs, acc => (pr t).bind fun r => sumR pc ts qs (acc + (r - pc) * (q : Rat))
  | _, _, acc => some acc

def sgn (b : Bool) (r : Rat) : Rat := bif b then -r else r

/-- what Surplus answers, behind the looks at the shape -/
noncomputable def surpR (b : Bool) : Option Rat → List FV
  | none => [.str (txt []), .int .i64 10]
  | some s => [sF (rtext (sgn b s)), .int .i64 0]

theorem Bd.sgn {k : Nat} {r : Rat} (h : Bd k r) (b : Bool) : Bd k (sgn b r) := by
  cases b
  · exact h
  · exact h.neg

theorem Bd_small {z : Int} (h1 : -100000 ≤ z) (h2 : z ≤ 100000) : Bd 1024 (z : Rat) := by
  refine (Bd.int (k := 17) ?_ (by omega)).mono (by omega)
  have : (2 : Nat) ^ 17 = 131072 := rfl
  omega

theorem Bd_zero : Bd 1 (0 : Rat) := ⟨by decide, by decide⟩

section
variable {s0 : List UInt8} {x1 x2 x4 x6 x7 : Int} {b : Bool} {q : List Int} {P : List (List (List UInt8))}

/-- the numbers' bounds -/
structure SOk (x2 x4 : Int) (q : List Int) (P : List (List (List UInt8))) : Prop where
  price : -100000 ≤ x4 ∧ x4 ≤ 100000
  qty : ∀ x, x ∈ q → -100000 ≤ x ∧ x ≤ 100000
  few : P.length ≤ 256 ∧ ∀ r, r ∈ P → Few r
  len : P.length = q.length
  zone : ∀ r, r ∈ P → 0 ≤ x2 ∧ x2 < (r.length : Int)

/-- the zone's texts -/
def zoneT (x2 : Int) (P : List (List (List UInt8))) : List (List UInt8) := P.map fun r => r.getD x2.toNat []

theorem zone_at (h : SOk x2 x4 q P) {i : Nat} (hi : i < P.length) : ix x2 (P[i].map sF).length = some x2.toNat ∧ at' (P[i].map sF) x2.toNat 0 = some (sF (P[i].getD x2.toNat [])) ∧ (P[i].getD x2.toNat []).length ≤ 256 := by
  obtain ⟨h0, h1⟩ := h.zone P[i] (List.getElem_mem hi)
  have hz : x2.toNat < P[i].length := by omega
  refine ⟨by rw [List.length_map, ix_int h0 h1], ?_, ?_⟩
  · rw [sF_at hz, List.getD_eq_getElem?_getD, List.getElem?_eq_getElem hz]; rfl
  · rw [List.getD_eq_getElem?_getD, List.getElem?_eq_getElem hz]
    exact (h.few.2 _ (List.getElem_mem hi)).2 _ (List.getElem_mem hz)

theorem zoneT_drop {i : Nat} (hi : i < P.length) : (zoneT x2 P).drop i = P[i].getD x2.toNat [] :: (zoneT x2 P).drop (i + 1) := by
  have : i < (zoneT x2 P).length := by simp [zoneT]; exact hi
  rw [List.drop_eq_getElem_cons this]
  congr 1
  simp [zoneT]

theorem surp_loop (h : SOk x2 x4 q P) : ∀ (d i : Nat) (acc : Rat) (da : Nat), i + d = P.length → Bd (1 + 4099 * i) acc → dn da = acc.den → ∃ n0, ∀ n m, n0 ≤ n → n0 ≤ m →
    result_Surplus.l6 n [] m [sF s0, iF x1, iF x2, .bool b, iF x4, .list 1 (q.map iF), iF x6, iF x7, zl (acc).num, zb (acc).num, nL (da), .bool false, .list 1 (P.map rowF), .int .i64 (P.length : Int), .int .i64 (i : Int)] = some (surpR b (sumR (x4 : Rat) ((zoneT x2 P).drop i) (q.drop i) acc)) := by
  have hp := h.price
  have hP := h.few.1
  intro d
  induction d with
  | zero =>
    intro i acc da hi hb hd
    have e1 : (zoneT x2 P).drop i = [] := List.drop_of_length_le (by simp [zoneT]; omega)
    obtain ⟨n1, h1⟩ := rtext_ev (k := 1 + 4099 * i) (by omega) (by omega) hb hd
    obtain ⟨n2, h2⟩ := rneg_ev (k := 1 + 4099 * i) (by omega) hb hd
    obtain ⟨n3, h3⟩ := rtext_ev (k := 1 + 4099 * i) (q := -acc) (by omega) (by omega) hb.neg (dn_den _)
    refine ⟨n1 + n2 + n3 + 1, fun n m hn hm => ?_⟩
    obtain ⟨m, rfl⟩ : ∃ k, m = k + 1 := ⟨m - 1, by omega⟩
    rw [result_Surplus.l6_eq, decide_eq_false (by omega), cond_false, e1]
    cases b
    · rw [cond_false]
      simp (disch := omega) only [h1, Option.bind_some, List.getElem?_cons_zero, List.getElem?_cons_succ, asLst_list, asInt_int, asBool_bool, asStr_str, cond_true, cond_false]
      rfl
    · rw [cond_true]
      try simp (disch := omega) only [h2, Option.bind_some, List.getElem?_cons_zero, List.getElem?_cons_succ, asLst_list, asInt_int, asBool_bool, asStr_str, cond_true, cond_false]
      try simp (disch := omega) only [h3, Option.bind_some, List.getElem?_cons_zero, List.getElem?_cons_succ, asLst_list, asInt_int, asBool_bool, asStr_str, cond_true, cond_false]
      rfl
  | succ d ih =>
    intro i acc da hi hb hd
    have hil : i < P.length := by omega
    have hiq : i < q.length := by have := h.len; omega
    obtain ⟨z1, z2, z3⟩ := zone_at h hil
    have e1 := zoneT_drop (x2 := x2) hil
    have e2 : q.drop i = q[i] :: q.drop (i + 1) := List.drop_eq_getElem_cons hiq
    have hq := h.qty _ (List.getElem_mem hiq)
    have head : ∀ n m, result_Surplus.l6 n [] (m + 1) [sF s0, iF x1, iF x2, .bool b, iF x4, .list 1 (q.map iF), iF x6, iF x7, zl (acc).num, zb (acc).num, nL (da), .bool false, .list 1 (P.map rowF), .int .i64 (P.length : Int), .int .i64 (i : Int)] = _ := fun n m => by
      rw [result_Surplus.l6_eq, decide_eq_true (by omega), cond_true, List.length_map, ix_nat hil, Option.bind_some, rowF_at hil, asLst_list, Option.bind_some, z1, Option.bind_some, z2, asStr_str, Option.bind_some]
    rw [e1, e2, sumR]
    cases hpr : pr (P[i].getD x2.toNat []) with
    | none =>
      obtain ⟨n1, h1⟩ := rparse_bad hpr (by omega)
      refine ⟨n1 + 1, fun n m hn hm => ?_⟩
      obtain ⟨m, rfl⟩ : ∃ k, m = k + 1 := ⟨m - 1, by omega⟩
      rw [head]
      try simp (disch := omega) only [h1, Option.bind_some, List.getElem?_cons_zero, List.getElem?_cons_succ, asLst_list, asInt_int, asBool_bool, asStr_str, cond_true, cond_false]
      try simp (disch := omega) only [show ((10 : Int) != 0) = true from rfl, Option.bind_some, List.getElem?_cons_zero, List.getElem?_cons_succ, asLst_list, asInt_int, asBool_bool, asStr_str, cond_true, cond_false]
      rfl
    | some r =>
      have br : Bd 1024 r := (pr_bd hpr).mono (by omega)
      have bx := Bd_small hp.1 hp.2
      have bq := Bd_small hq.1 hq.2
      have bs : Bd 2049 (r - x4) := (br.sub bx).mono (by omega)
      have bm : Bd 4098 ((r - x4) * (q[i] : Rat)) := (bs.mul (bq.mono (show 1024 ≤ 2049 by omega))).mono (by omega)
      have ba : Bd (1 + 4099 * (i + 1)) (acc + (r - x4) * (q[i] : Rat)) := (hb.add bm).mono (by omega)
      obtain ⟨n1, h1⟩ := rparse_ev hpr (by omega)
      obtain ⟨n2, h2⟩ := of_ev (z := x4) (by omega) (by omega)
      obtain ⟨n3, h3⟩ := rsub_ev (k := 1024) (by omega) (by omega) br bx (dn_den _) (dn_den _)
      obtain ⟨n4, h4⟩ := of_ev (z := q[i]) (by omega) (by omega)
      obtain ⟨n5, h5⟩ := rmul_ev (k := 2049) (by omega) (by omega) bs (bq.mono (show 1024 ≤ 2049 by omega)) (dn_den _) (dn_den _)
      obtain ⟨n6, h6⟩ := radd_ev (k := 1 + 4099 * i + 4098) (by omega) (by omega) (hb.mono (by omega)) (bm.mono (by omega)) hd (dn_den _)
      obtain ⟨n7, h7⟩ := ih (i + 1) _ _ (by omega) ba (dn_den _)
      refine ⟨n1 + n2 + n3 + n4 + n5 + n6 + n7 + 1, fun n m hn hm => ?_⟩
      obtain ⟨m, rfl⟩ : ∃ k, m = k + 1 := ⟨m - 1, by omega⟩
      rw [head]
      try simp (disch := omega) only [h1, Option.bind_some, List.getElem?_cons_zero, List.getElem?_cons_succ, asLst_list, asInt_int, asBool_bool, asStr_str, cond_true, cond_false]
      try simp (disch := omega) only [show ((0 : Int) != 0) = false from rfl, Option.bind_some, List.getElem?_cons_zero, List.getElem?_cons_succ, asLst_list, asInt_int, asBool_bool, asStr_str, cond_true, cond_false]
      try simp (disch := omega) only [h2, Option.bind_some, List.getElem?_cons_zero, List.getElem?_cons_succ, asLst_list, asInt_int, asBool_bool, asStr_str, cond_true, cond_false]
      try simp (disch := omega) only [h3, Option.bind_some, List.getElem?_cons_zero, List.getElem?_cons_succ, asLst_list, asInt_int, asBool_bool, asStr_str, cond_true, cond_false]
      rw [List.length_map, ix_nat hiq, Option.bind_some, iF_at hiq, asInt_int, Option.bind_some]
      try simp (disch := omega) only [h4, Option.bind_some, List.getElem?_cons_zero, List.getElem?_cons_succ, asLst_list, asInt_int, asBool_bool, asStr_str, cond_true, cond_false]
      try simp (disch := omega) only [h5, Option.bind_some, List.getElem?_cons_zero, List.getElem?_cons_succ, asLst_list, asInt_int, asBool_bool, asStr_str, cond_true, cond_false]
      try simp (disch := omega) only [h6, Option.bind_some, List.getElem?_cons_zero, List.getElem?_cons_succ, asLst_list, asInt_int, asBool_bool, asStr_str, cond_true, cond_false]
      rw [wrap_succ (by omega)]
      exact h7 n m (by omega) (by omega)

theorem wsurp_loop (h : SOk x2 x4 q P) : ∀ (d i : Nat) (acc : Rat), i + d = P.length → Bd (1 + 4099 * i) acc → ∃ n0, ∀ n m, n0 ≤ n → n0 ≤ m →
    noonbellref16_Surplus.l10 n [] m [sF s0, iF x1, iF x2, .bool b, iF x4, .list 1 (q.map iF), iF x6, iF x7, zb (sgn b acc).num, wl (sgn b acc).num, .bool false, wL (sgn b acc).den, .list 1 (P.map rowF), .int .i64 (i : Int)] = some (surpR b (sumR (x4 : Rat) ((zoneT x2 P).drop i) (q.drop i) acc)) := by
  have hp := h.price
  have hP := h.few.1
  intro d
  induction d with
  | zero =>
    intro i acc hi hb
    have e1 : (zoneT x2 P).drop i = [] := List.drop_of_length_le (by simp [zoneT]; omega)
    obtain ⟨n1, h1⟩ := wrtext_ev (k := 1 + 4099 * i) (by omega) (hb.sgn b) (dn_den _)
    refine ⟨n1 + 1, fun n m hn hm => ?_⟩
    obtain ⟨m, rfl⟩ : ∃ k, m = k + 1 := ⟨m - 1, by omega⟩
    rw [noonbellref16_Surplus.l10_eq, List.length_map, decide_eq_false (by omega), cond_false, e1]
    simp (disch := omega) only [h1, Option.bind_some, List.getElem?_cons_zero, List.getElem?_cons_succ, asLst_list, asInt_int, asBool_bool, asStr_str, cond_true, cond_false]
    rfl
  | succ d ih =>
    intro i acc hi hb
    have hil : i < P.length := by omega
    have hiq : i < q.length := by have := h.len; omega
    obtain ⟨z1, z2, z3⟩ := zone_at h hil
    have e1 := zoneT_drop (x2 := x2) hil
    have e2 : q.drop i = q[i] :: q.drop (i + 1) := List.drop_eq_getElem_cons hiq
    have hq := h.qty _ (List.getElem_mem hiq)
    have head : ∀ n m, noonbellref16_Surplus.l10 n [] (m + 1) [sF s0, iF x1, iF x2, .bool b, iF x4, .list 1 (q.map iF), iF x6, iF x7, zb (sgn b acc).num, wl (sgn b acc).num, .bool false, wL (sgn b acc).den, .list 1 (P.map rowF), .int .i64 (i : Int)] = _ := fun n m => by
      rw [noonbellref16_Surplus.l10_eq, List.length_map, decide_eq_true (by omega), cond_true, ix_nat hil, Option.bind_some, rowF_at hil, asLst_list, Option.bind_some, z1, Option.bind_some, z2, asStr_str, Option.bind_some]
    rw [e1, e2, sumR]
    cases hpr : pr (P[i].getD x2.toNat []) with
    | none =>
      obtain ⟨n1, h1⟩ := wrparse_bad hpr (by omega)
      refine ⟨n1 + 1, fun n m hn hm => ?_⟩
      obtain ⟨m, rfl⟩ : ∃ k, m = k + 1 := ⟨m - 1, by omega⟩
      rw [head]
      try simp (disch := omega) only [h1, Option.bind_some, List.getElem?_cons_zero, List.getElem?_cons_succ, asLst_list, asInt_int, asBool_bool, asStr_str, cond_true, cond_false]
      try simp (disch := omega) only [show ((10 : Int) != 0) = true from rfl, Option.bind_some, List.getElem?_cons_zero, List.getElem?_cons_succ, asLst_list, asInt_int, asBool_bool, asStr_str, cond_true, cond_false]
      rfl
    | some r =>
      have br : Bd 1024 r := (pr_bd hpr).mono (by omega)
      have bx := Bd_small hp.1 hp.2
      have bq := Bd_small hq.1 hq.2
      have bs : Bd 2049 (r - x4) := (br.sub bx).mono (by omega)
      have bm : Bd 4098 ((r - x4) * (q[i] : Rat)) := (bs.mul (bq.mono (show 1024 ≤ 2049 by omega))).mono (by omega)
      have ba : Bd (1 + 4099 * (i + 1)) (acc + (r - x4) * (q[i] : Rat)) := (hb.add bm).mono (by omega)
      obtain ⟨n1, h1⟩ := wrparse_ev hpr (by omega)
      obtain ⟨n2, h2⟩ := wrof_ev (z := x4) (by omega) (by omega)
      obtain ⟨n3, h3⟩ := wrsub_ev (k := 1024) (by omega) br bx (dn_den _) (dn_den _)
      obtain ⟨n4, h4⟩ := wrof_ev (z := q[i]) (by omega) (by omega)
      obtain ⟨n7, h7⟩ := ih (i + 1) _ (by omega) ba
      cases b
      · have bm' : Bd (1 + 4099 * i + 4098) ((r - x4) * (q[i] : Rat)) := bm.mono (by omega)
        obtain ⟨n5, h5⟩ := wrmul_ev (k := 2049) (by omega) bs (bq.mono (show 1024 ≤ 2049 by omega)) (dn_den _) (dn_den _)
        obtain ⟨n6, h6⟩ := wradd_ev (q := sgn false acc) (k := 1 + 4099 * i + 4098) (by omega) (hb.mono (by omega)) bm' (dn_den _) (dn_den _)
        refine ⟨n1 + n2 + n3 + n4 + n5 + n6 + n7 + 1, fun n m hn hm => ?_⟩
        obtain ⟨m, rfl⟩ : ∃ k, m = k + 1 := ⟨m - 1, by omega⟩
        rw [head]
        try simp (disch := omega) only [h1, Option.bind_some, List.getElem?_cons_zero, List.getElem?_cons_succ, asLst_list, asInt_int, asBool_bool, asStr_str, cond_true, cond_false]
        try simp (disch := omega) only [show ((0 : Int) != 0) = false from rfl, Option.bind_some, List.getElem?_cons_zero, List.getElem?_cons_succ, asLst_list, asInt_int, asBool_bool, asStr_str, cond_true, cond_false]
        try simp (disch := omega) only [h2, Option.bind_some, List.getElem?_cons_zero, List.getElem?_cons_succ, asLst_list, asInt_int, asBool_bool, asStr_str, cond_true, cond_false]
        try simp (disch := omega) only [h3, Option.bind_some, List.getElem?_cons_zero, List.getElem?_cons_succ, asLst_list, asInt_int, asBool_bool, asStr_str, cond_true, cond_false]
        rw [List.length_map, ix_nat hiq]
        simp only [Option.bind_some, iF_at hiq, asInt_int]
        try simp (disch := omega) only [h4, Option.bind_some, List.getElem?_cons_zero, List.getElem?_cons_succ, asLst_list, asInt_int, asBool_bool, asStr_str, cond_true, cond_false]
        try simp (disch := omega) only [h5, Option.bind_some, List.getElem?_cons_zero, List.getElem?_cons_succ, asLst_list, asInt_int, asBool_bool, asStr_str, cond_true, cond_false]
        try simp (disch := omega) only [h6, Option.bind_some, List.getElem?_cons_zero, List.getElem?_cons_succ, asLst_list, asInt_int, asBool_bool, asStr_str, cond_true, cond_false]
        rw [wrap_succ (by omega)]
        exact h7 n m (by omega) (by omega)
      · have bn : Bd 2049 (-(r - x4)) := bs.neg
        have bm' : Bd (1 + 4099 * i + 4098) (-(r - x4) * (q[i] : Rat)) := (bn.mul (bq.mono (show 1024 ≤ 2049 by omega))).mono (by omega)
        obtain ⟨n8, h8⟩ := wrneg_ev (q := r - x4) (dn_den _)
        obtain ⟨n5, h5⟩ := wrmul_ev (k := 2049) (by omega) bn (bq.mono (show 1024 ≤ 2049 by omega)) (dn_den _) (dn_den _)
        obtain ⟨n6, h6⟩ := wradd_ev (q := sgn true acc) (k := 1 + 4099 * i + 4098) (by omega) ((hb.sgn true).mono (by omega)) bm' (dn_den _) (dn_den _)
        have es : sgn true acc + -(r - x4) * (q[i] : Rat) = sgn true (acc + (r - x4) * (q[i] : Rat)) := by
          simp only [sgn, cond_true]
          rw [Rat.neg_mul, Rat.neg_add]
        rw [es] at h6
        refine ⟨n1 + n2 + n3 + n4 + n5 + n6 + n7 + n8 + 1, fun n m hn hm => ?_⟩
        obtain ⟨m, rfl⟩ : ∃ k, m = k + 1 := ⟨m - 1, by omega⟩
        rw [head]
        try simp (disch := omega) only [h1, Option.bind_some, List.getElem?_cons_zero, List.getElem?_cons_succ, asLst_list, asInt_int, asBool_bool, asStr_str, cond_true, cond_false]
        try simp (disch := omega) only [show ((0 : Int) != 0) = false from rfl, Option.bind_some, List.getElem?_cons_zero, List.getElem?_cons_succ, asLst_list, asInt_int, asBool_bool, asStr_str, cond_true, cond_false]
        try simp (disch := omega) only [h2, Option.bind_some, List.getElem?_cons_zero, List.getElem?_cons_succ, asLst_list, asInt_int, asBool_bool, asStr_str, cond_true, cond_false]
        try simp (disch := omega) only [h3, Option.bind_some, List.getElem?_cons_zero, List.getElem?_cons_succ, asLst_list, asInt_int, asBool_bool, asStr_str, cond_true, cond_false]
        try simp (disch := omega) only [h8, Option.bind_some, List.getElem?_cons_zero, List.getElem?_cons_succ, asLst_list, asInt_int, asBool_bool, asStr_str, cond_true, cond_false]
        rw [List.length_map, ix_nat hiq]
        simp only [Option.bind_some, iF_at hiq, asInt_int]
        try simp (disch := omega) only [h4, Option.bind_some, List.getElem?_cons_zero, List.getElem?_cons_succ, asLst_list, asInt_int, asBool_bool, asStr_str, cond_true, cond_false]
        try simp (disch := omega) only [h5, Option.bind_some, List.getElem?_cons_zero, List.getElem?_cons_succ, asLst_list, asInt_int, asBool_bool, asStr_str, cond_true, cond_false]
        try simp (disch := omega) only [h6, Option.bind_some, List.getElem?_cons_zero, List.getElem?_cons_succ, asLst_list, asInt_int, asBool_bool, asStr_str, cond_true, cond_false]
        rw [wrap_succ (by omega)]
        exact h7 n m (by omega) (by omega)
end

end Rf
end

section
/- ResultSurplus: the law. -/
set_option linter.unusedSimpArgs false
set_option linter.unusedVariables false
set_option maxHeartbeats 2000000
namespace Rf
open Go

section
variable {s0 : List UInt8} {x1 x2 x4 x6 x7 : Int} {b : Bool} {q : List Int} {P : List (List (List UInt8))}

/-- is the zone none of this row's? -/
def oddZ (x2 : Int) (r : List (List UInt8)) : Bool := !(decide (0 ≤ x2) && decide (x2 < (r.length : Int)))

theorem odd_run {n : Nat} {r : List (List UInt8)} {F : List FV} (hl : r.length ≤ 9000000000000000) : evF En (n + 2) 39 [rowF r, sF s0, iF x1, iF x2, .bool b, iF x4, .list 1 F, iF x6, iF x7] = some [sF s0, iF x1, iF x2, .bool b, iF x4, .list 1 F, iF x6, iF x7, .bool (oddZ x2 r)] := by
  rw [result_Surplus_1_eq, result_fits_eq, List.length_map, wrap64_id (by omega) (by omega)]
  unfold oddZ
  by_cases h : 0 ≤ x2
  · rw [decide_eq_true h, cond_true]
    simp (disch := omega) only [Option.bind_some, List.getElem?_cons_zero, List.getElem?_cons_succ, asLst_list, asInt_int, asBool_bool, asStr_str, cond_true, cond_false]
    have : decide (x2 ≤ (r.length : Int) - 1) = decide (x2 < (r.length : Int)) := by
      rw [Bool.eq_iff_iff, decide_eq_true_eq, decide_eq_true_eq]; omega
    rw [this, Bool.true_and]
  · rw [decide_eq_false h, cond_false]
    simp (disch := omega) only [Option.bind_some, List.getElem?_cons_zero, List.getElem?_cons_succ, asLst_list, asInt_int, asBool_bool, asStr_str, cond_true, cond_false]
    rw [Bool.false_and]

theorem idx_loop {F : List FV} (hl : P.length ≤ 9000000000000) (hr : ∀ r, r ∈ P → r.length ≤ 9000000000000000) : ∀ (d i : Nat), i + d = P.length → ∃ k : Int, (decide (k ≥ 0) = (P.drop i).any (oddZ x2)) ∧ ∀ n m, 2 ≤ n → d < m →
    slices_IndexFunc_string_string.l2 n [] m [sF s0, iF x1, iF x2, .bool b, iF x4, .list 1 F, iF x6, iF x7, .list 1 (P.map rowF), .int .i64 (P.length : Int), .int .i64 (i : Int)] = some [sF s0, iF x1, iF x2, .bool b, iF x4, .list 1 F, iF x6, iF x7, .int .i64 k] := by
  intro d
  induction d with
  | zero =>
    intro i hi
    refine ⟨-1, by rw [List.drop_of_length_le (by omega)]; rfl, fun n m hn hm => ?_⟩
    obtain ⟨m, rfl⟩ : ∃ k, m = k + 1 := ⟨m - 1, by omega⟩
    rw [slices_IndexFunc_string_string.l2_eq, decide_eq_false (by omega), cond_false]
  | succ d ih =>
    intro i hi
    have hil : i < P.length := by omega
    have e1 : P.drop i = P[i] :: P.drop (i + 1) := List.drop_eq_getElem_cons hil
    cases ho : oddZ x2 P[i] with
    | true =>
      refine ⟨i, by rw [e1, List.any_cons, ho, Bool.true_or, decide_eq_true (by omega)], fun n m hn hm => ?_⟩
      obtain ⟨m, rfl⟩ : ∃ k, m = k + 1 := ⟨m - 1, by omega⟩
      obtain ⟨n, rfl⟩ : ∃ k, n = k + 2 := ⟨n - 2, by omega⟩
      rw [slices_IndexFunc_string_string.l2_eq, decide_eq_true (by omega), cond_true, List.length_map, ix_nat hil, Option.bind_some, rowF_at hil, asLst_list, Option.bind_some, odd_run (hr _ (List.getElem_mem hil)), ho]
      simp (disch := omega) only [Option.bind_some, List.getElem?_cons_zero, List.getElem?_cons_succ, asLst_list, asInt_int, asBool_bool, asStr_str, cond_true, cond_false]
    | false =>
      obtain ⟨k, h1, h2⟩ := ih (i + 1) (by omega)
      refine ⟨k, by rw [e1, List.any_cons, ho, Bool.false_or, h1], fun n m hn hm => ?_⟩
      obtain ⟨m, rfl⟩ : ∃ k, m = k + 1 := ⟨m - 1, by omega⟩
      obtain ⟨n, rfl⟩ : ∃ k, n = k + 2 := ⟨n - 2, by omega⟩
      rw [slices_IndexFunc_string_string.l2_eq, decide_eq_true (by omega), cond_true, List.length_map, ix_nat hil, Option.bind_some, rowF_at hil, asLst_list, Option.bind_some, odd_run (hr _ (List.getElem_mem hil)), ho]
      simp (disch := omega) only [Option.bind_some, List.getElem?_cons_zero, List.getElem?_cons_succ, asLst_list, asInt_int, asBool_bool, asStr_str, cond_true, cond_false]
      rw [wrap_succ (by omega)]
      exact h2 (n + 2) m hn (by omega)

theorem contains_ev {F : List FV} (hl : P.length ≤ 9000000000000) (hr : ∀ r, r ∈ P → r.length ≤ 9000000000000000) : Ev En 41 [.list 1 (P.map rowF), sF s0, iF x1, iF x2, .bool b, iF x4, .list 1 F, iF x6, iF x7] [sF s0, iF x1, iF x2, .bool b, iF x4, .list 1 F, iF x6, iF x7, .bool (P.any (oddZ x2))] := by
  obtain ⟨k, hk, hidx⟩ := idx_loop (s0 := s0) (x1 := x1) (x2 := x2) (x4 := x4) (x6 := x6) (x7 := x7) (b := b) (P := P) (F := F) hl hr P.length 0 (by omega)
  rw [List.drop_zero] at hk
  refine Ev.of (P.length + 6) fun n hn => ?_
  obtain ⟨n, rfl⟩ : ∃ k, n = k + 1 := ⟨n - 1, by omega⟩
  have hi := hidx n n (by omega) (by omega)
  rw [show ((0 : Nat) : Int) = 0 from rfl] at hi
  rw [slices_ContainsFunc_string_string_eq, slices_IndexFunc_string_string_eq, List.length_map, hi, ← hk]
  rfl

/-- what both answer -/
noncomputable def surpV (x2 x4 : Int) (q : List Int) (P : List (List (List UInt8))) (b : Bool) : List FV :=
  if P.length = q.length ∧ P.any (oddZ x2) = false then surpR b (sumR (x4 : Rat) (zoneT x2 P) q 0) else [.str (txt []), .int .i64 120]

/-- few enough, and no number too great -/
structure POk (x4 : Int) (q : List Int) (P : List (List (List UInt8))) : Prop where
  price : -100000 ≤ x4 ∧ x4 ≤ 100000
  qty : ∀ x, x ∈ q → -100000 ≤ x ∧ x ≤ 100000
  few : P.length ≤ 256 ∧ ∀ r, r ∈ P → Few r
  qlen : q.length ≤ 256

theorem POk.s (h : POk x4 q P) (hl : P.length = q.length) (ho : P.any (oddZ x2) = false) : SOk x2 x4 q P where
  price := h.price
  qty := h.qty
  few := h.few
  len := hl
  zone := fun r hr => by
    have := List.any_eq_false.1 ho r hr
    simp only [oddZ, Bool.not_eq_true', Bool.not_eq_false, Bool.and_eq_true, decide_eq_true_eq] at this
    exact this

theorem len_ne {a c : Nat} (h : a ≠ c) : ((a : Int) != (c : Int)) = true := by simp; omega
theorem len_eq {a c : Nat} (h : a = c) : ((a : Int) != (c : Int)) = false := by simp; omega

theorem surp_ev (h : POk x4 q P) : Ev En 12 [sF s0, iF x1, iF x2, .bool b, iF x4, .list 1 (q.map iF), iF x6, iF x7, .list 1 (P.map rowF)] (surpV x2 x4 q P b) := by
  have hP := h.few.1
  by_cases hl : P.length = q.length
  · obtain ⟨n2, h2⟩ := contains_ev (s0 := s0) (x1 := x1) (x2 := x2) (x4 := x4) (x6 := x6) (x7 := x7) (b := b) (P := P) (F := q.map iF) (by omega) (fun r hr => by have := (h.few.2 r hr).1; omega)
    have head : ∀ n, n2 ≤ n → evF En (n + 1) 12 [sF s0, iF x1, iF x2, .bool b, iF x4, .list 1 (q.map iF), iF x6, iF x7, .list 1 (P.map rowF)] =
        (bif P.any (oddZ x2) then some [.str { data := #[] }, .int .i64 120]
         else result_Surplus.l6 n [] n [sF s0, iF x1, iF x2, .bool b, iF x4, .list 1 (q.map iF), iF x6, iF x7, .list 1 [], .bool false, .list 1 [], .bool false, .list 1 (P.map rowF), .int .i64 (P.length : Int), .int .i64 0]) := fun n hn => by
      rw [result_Surplus_eq, List.length_map, List.length_map, len_eq hl, cond_false, h2 n hn]
      rfl
    cases ho : P.any (oddZ x2) with
    | true =>
      refine Ev.of n2 fun n hn => ?_
      rw [head n hn, ho, cond_true]
      unfold surpV
      rw [if_neg (fun q => by rw [ho] at q; cases q.2)]
      rfl
    | false =>
      obtain ⟨n1, h1⟩ := surp_loop (s0 := s0) (x1 := x1) (x6 := x6) (x7 := x7) (b := b) (h.s (x2 := x2) hl ho) P.length 0 0 0 (by omega) Bd_zero rfl
      refine Ev.of (n2 + n1) fun n hn => ?_
      have g1 := h1 n n (by omega) (by omega)
      rw [show ((0 : Nat) : Int) = 0 from rfl] at g1
      rw [show zl (0 : Rat).num = nL 0 from rfl, show zb (0 : Rat).num = .bool false from rfl, nL_zero, List.drop_zero, List.drop_zero] at g1
      rw [head n (by omega), ho, cond_false]
      unfold surpV
      rw [if_pos ⟨hl, ho⟩]
      exact g1
  · refine Ev.of 0 fun n hn => ?_
    rw [result_Surplus_eq, List.length_map, List.length_map, len_ne hl, cond_true]
    unfold surpV
    rw [if_neg (fun q => hl q.1)]
    rfl

theorem wshape_loop {n : Nat} {F : List FV} (hl : P.length ≤ 9000000000000) : ∀ (d i m : Nat), i + d = P.length → d < m →
    noonbellref16_Surplus.l4 n [] m [sF s0, iF x1, iF x2, .bool b, iF x4, .list 1 F, iF x6, iF x7, .list 1 (P.map rowF), .int .i64 (i : Int)] = bif (P.drop i).any (oddZ x2) then some [.str (txt []), .int .i64 120]
      else (evF En n 14 [.int .i64 0]).bind fun r2 => (asBool (r2[0]?)).bind fun c3 => (asLst 1 (r2[1]?)).bind fun v4 => (asBool (r2[2]?)).bind fun c5 => (asLst 1 (r2[3]?)).bind fun v6 => noonbellref16_Surplus.l10 n [] n [sF s0, iF x1, iF x2, .bool b, iF x4, .list 1 F, iF x6, iF x7, .bool c3, .list 1 v4, .bool c5, .list 1 v6, .list 1 (P.map rowF), .int .i64 0] := by
  intro d
  induction d with
  | zero =>
    intro i m hi hm
    obtain ⟨m, rfl⟩ : ∃ k, m = k + 1 := ⟨m - 1, by omega⟩
    rw [noonbellref16_Surplus.l4_eq, List.length_map, decide_eq_false (by omega), cond_false, List.drop_of_length_le (by omega)]
    rfl
  | succ d ih =>
    intro i m hi hm
    obtain ⟨m, rfl⟩ : ∃ k, m = k + 1 := ⟨m - 1, by omega⟩
    have hil : i < P.length := by omega
    have e1 : P.drop i = P[i] :: P.drop (i + 1) := List.drop_eq_getElem_cons hil
    rw [noonbellref16_Surplus.l4_eq, List.length_map, decide_eq_true (by omega), cond_true, e1, List.any_cons]
    have ho : oddZ x2 P[i] = !(decide (0 ≤ x2) && decide (x2 < (P[i].length : Int))) := rfl
    by_cases h1 : x2 < 0
    · rw [decide_eq_true h1, cond_true, ho, decide_eq_false (by omega)]
      rfl
    · rw [decide_eq_false h1, cond_false, ix_nat hil, Option.bind_some, rowF_at hil, asLst_list, Option.bind_some, List.length_map]
      by_cases h2 : (P[i].length : Int) ≤ x2
      · rw [decide_eq_true (by omega), cond_true, ho, decide_eq_true (by omega), decide_eq_false (by omega)]
        rfl
      · rw [decide_eq_false (by omega), cond_false, ho, decide_eq_true (by omega), decide_eq_true (by omega), wrap_succ (by omega), ih (i + 1) m (by omega) (by omega)]
        rfl

theorem wsurp_ev (h : POk x4 q P) : Ev En 13 [sF s0, iF x1, iF x2, .bool b, iF x4, .list 1 (q.map iF), iF x6, iF x7, .list 1 (P.map rowF)] (surpV x2 x4 q P b) := by
  have hP := h.few.1
  by_cases hl : P.length = q.length
  · cases ho : P.any (oddZ x2) with
    | true =>
      refine Ev.of (P.length + 6) fun n hn => ?_
      have := wshape_loop (n := n) (s0 := s0) (x1 := x1) (x2 := x2) (x4 := x4) (x6 := x6) (x7 := x7) (b := b) (P := P) (F := q.map iF) (by omega) P.length 0 n (by omega) (by omega)
      rw [show ((0 : Nat) : Int) = 0 from rfl, List.drop_zero, ho, cond_true] at this
      rw [noonbellref16_Surplus_eq, List.length_map, List.length_map, len_eq hl, cond_false, this]
      unfold surpV
      rw [if_neg (fun q => by rw [ho] at q; cases q.2)]
    | false =>
      obtain ⟨n1, h1⟩ := wsurp_loop (s0 := s0) (x1 := x1) (x6 := x6) (x7 := x7) (b := b) (h.s (x2 := x2) hl ho) P.length 0 0 (by omega) Bd_zero
      have hs : sgn b 0 = 0 := by cases b <;> rfl
      rw [hs] at h1
      obtain ⟨n2, h2⟩ := wrof_ev (z := 0) (by omega) (by omega)
      refine Ev.of (P.length + n1 + n2 + 6) fun n hn => ?_
      have g1 := h1 n n (by omega) (by omega)
      rw [show ((0 : Nat) : Int) = 0 from rfl, List.drop_zero, List.drop_zero] at g1
      have := wshape_loop (n := n) (s0 := s0) (x1 := x1) (x2 := x2) (x4 := x4) (x6 := x6) (x7 := x7) (b := b) (P := P) (F := q.map iF) (by omega) P.length 0 n (by omega) (by omega)
      rw [show ((0 : Nat) : Int) = 0 from rfl, List.drop_zero, ho, cond_false] at this
      rw [noonbellref16_Surplus_eq, List.length_map, List.length_map, len_eq hl, cond_false, this]
      simp (disch := omega) only [h2, Option.bind_some, List.getElem?_cons_zero, List.getElem?_cons_succ, asLst_list, asInt_int, asBool_bool, asStr_str, cond_true, cond_false]
      unfold surpV
      rw [if_pos ⟨hl, ho⟩]
      exact g1
  · refine Ev.of 0 fun n hn => ?_
    rw [noonbellref16_Surplus_eq, List.length_map, List.length_map, len_ne hl, cond_true]
    unfold surpV
    rw [if_neg (fun q => hl q.1)]
    rfl

theorem sum_bd (h : SOk x2 x4 q P) : ∀ (d i : Nat) (acc s : Rat), i + d = P.length → Bd (1 + 4099 * i) acc → sumR (x4 : Rat) ((zoneT x2 P).drop i) (q.drop i) acc = some s → Bd (1 + 4099 * 256) s := by
  have hp := h.price
  have hP := h.few.1
  intro d
  induction d with
  | zero =>
    intro i acc s hi hb hs
    have e1 : (zoneT x2 P).drop i = [] := List.drop_of_length_le (by simp [zoneT]; omega)
    rw [e1, sumR] at hs
    cases hs
    · exact hb.mono (by omega)
    · intro _ _ _ _ h; cases h
  | succ d ih =>
    intro i acc s hi hb hs
    have hil : i < P.length := by omega
    have hiq : i < q.length := by have := h.len; omega
    obtain ⟨z1, z2, z3⟩ := zone_at h hil
    have e1 := zoneT_drop (x2 := x2) hil
    have e2 : q.drop i = q[i] :: q.drop (i + 1) := List.drop_eq_getElem_cons hiq
    have hq := h.qty _ (List.getElem_mem hiq)
    rw [e1, e2, sumR] at hs
    cases hpr : pr (P[i].getD x2.toNat []) with
    | none => rw [hpr] at hs; cases hs
    | some r =>
      rw [hpr, Option.bind_some] at hs
      have br : Bd 1024 r := (pr_bd hpr).mono (by omega)
      have bx := Bd_small hp.1 hp.2
      have bq := Bd_small hq.1 hq.2
      have bs : Bd 2049 (r - x4) := (br.sub bx).mono (by omega)
      have bm : Bd 4098 ((r - x4) * (q[i] : Rat)) := (bs.mul (bq.mono (show 1024 ≤ 2049 by omega))).mono (by omega)
      have ba : Bd (1 + 4099 * (i + 1)) (acc + (r - x4) * (q[i] : Rat)) := (hb.add bm).mono (by omega)
      exact ih (i + 1) _ s (by omega) ba hs

theorem rtext_neg {T : Rat} (h : 0 < T.num) : rtext (-T) = 45 :: rtext T := by
  have e1 : (-T).num = -T.num := rfl
  have e2 : (-T).den = T.den := rfl
  have hz : ztext (-T.num) = 45 :: ztext T.num := by
    unfold ztext
    rw [if_pos (by omega), if_neg (by omega), Int.natAbs_neg]
  unfold rtext
  rw [e1, e2, hz]
  split <;> rfl

theorem rtext_zero : rtext 0 = [48] := by
  unfold rtext ztext dtext
  simp

/-- the law's end -/
theorem surp_end (h : POk x4 q P) : ∃ n0, ∀ n, n0 ≤ n → (((evF En n 12 [sF s0, iF x1, iF x2, .bool b, iF x4, .list 1 (q.map iF), iF x6, iF x7, .list 1 (P.map rowF)]).bind fun r4 => (asStr (r4[0]?)).bind fun u5 => (asInt .i64 (r4[1]?)).bind fun n6 => (evF En n 13 [sF s0, iF x1, iF x2, .bool b, iF x4, .list 1 (q.map iF), iF x6, iF x7, .list 1 (P.map rowF)]).bind fun r7 => (asStr (r7[0]?)).bind fun u8 => (asInt .i64 (r7[1]?)).bind fun n9 => (evF En n 12 [sF s0, iF x1, iF x2, .bool (!b), iF x4, .list 1 (q.map iF), iF x6, iF x7, .list 1 (P.map rowF)]).bind fun r10 => (asStr (r10[0]?)).bind fun u11 => (asInt .i64 (r10[1]?)).bind fun n12 => 
    (bif (!(u5.toList == u8.toList)) then some [.bool false]
     else 
      (bif (n6 != n9) then some [.bool false]
       else 
        (bif (n6 != n12) then some [.bool false]
         else 
          (bif (n6 != 0) then some [.bool true]
           else 
            (bif (u11.toList == u5.toList) then 
              (bif (u5.toList == ({ data := #[48] } : ByteArray).toList) then some [.bool true]
               else 
                (bif (decide (((1 + u5.size) : Int) > 9223372036854775807)) then none
                 else 
                  (bif (u11.toList == ({ data := #[45] } ++ u5).toList) then some [.bool true]
                   else 
                    (bif (decide (((1 + u11.size) : Int) > 9223372036854775807)) then none
                     else some [.bool (u5.toList == ({ data := #[45] } ++ u11).toList)]))))
             else 
              (bif (decide (((1 + u5.size) : Int) > 9223372036854775807)) then none
               else 
                (bif (u11.toList == ({ data := #[45] } ++ u5).toList) then some [.bool true]
                 else 
                  (bif (decide (((1 + u11.size) : Int) > 9223372036854775807)) then none
                   else some [.bool (u5.toList == ({ data := #[45] } ++ u11).toList)]))))))))) : Res) = some [.bool true] := by
  obtain ⟨n1, h1⟩ := surp_ev (s0 := s0) (x1 := x1) (x2 := x2) (x6 := x6) (x7 := x7) (b := b) h
  obtain ⟨n2, h2⟩ := wsurp_ev (s0 := s0) (x1 := x1) (x2 := x2) (x6 := x6) (x7 := x7) (b := b) h
  obtain ⟨n3, h3⟩ := surp_ev (s0 := s0) (x1 := x1) (x2 := x2) (x6 := x6) (x7 := x7) (b := !b) h
  refine ⟨n1 + n2 + n3, fun n hn => ?_⟩
  rw [h1 n (by omega), Option.bind_some]
  simp only [h2 n (by omega), h3 n (by omega), Option.bind_some]
  clear h1 h2 h3
  unfold surpV
  by_cases hc : P.length = q.length ∧ P.any (oddZ x2) = false
  · simp only [if_pos hc]
    have hok := h.s (x2 := x2) hc.1 hc.2
    cases hs : sumR (x4 : Rat) (zoneT x2 P) q 0 with
    | none =>
      simp only [surpR, List.getElem?_cons_zero, List.getElem?_cons_succ, asStr_str, asInt_int, Option.bind_some, txt_beq, decide_true, Bool.not_true, cond_false, show ((10 : Int) != 10) = false from rfl, show ((10 : Int) != 0) = true from rfl, cond_true]
    | some S =>
      have bS : Bd (1 + 4099 * 256) S := sum_bd hok P.length 0 0 S (by omega) Bd_zero (by rw [List.drop_zero, List.drop_zero]; exact hs)
      have eT : sgn (!b) S = -(sgn b S) := by cases b <;> simp [sgn]
      have bT : Bd (1 + 4099 * 256) (sgn b S) := bS.sgn b
      simp only [surpR, eT, List.getElem?_cons_zero, List.getElem?_cons_succ, asStr_str, asInt_int, Option.bind_some]
      generalize sgn b S = T at bT ⊢
      have l1 := bT.len
      have l2 := bT.neg.len
      rw [show ({ data := #[48] } : ByteArray) = txt [48] from rfl, show ({ data := #[45] } : ByteArray) = txt [45] from rfl]
      simp only [txt_beq, txt_app, txt_size, decide_true, Bool.not_true, cond_false, show ((0 : Int) != 0) = false from rfl]
      by_cases h0 : T = 0
      · subst h0
        rw [decide_eq_true (show rtext (-0) = rtext 0 from rfl), cond_true, rtext_zero]
        rfl
      · have hn0 : T.num ≠ 0 := fun e => h0 (Rat.num_eq_zero.1 e)
        have hne : rtext (-T) ≠ rtext T := fun e => by
          have := congrArg Rat.num (rtext_inj e)
          have e1 : (-T).num = -T.num := rfl
          omega
        rw [decide_eq_false hne, cond_false, decide_eq_false (by omega), cond_false]
        rcases Int.lt_or_gt_of_ne hn0 with hneg | hpos
        · have e : rtext T = [45] ++ rtext (-T) := by
            have e := rtext_neg (T := -T) (by show 0 < -T.num; omega)
            rwa [Rat.neg_neg] at e
          by_cases hq : rtext (-T) = [45] ++ rtext T
          · rw [decide_eq_true hq, cond_true]
          · rw [decide_eq_false hq, cond_false, decide_eq_false (by omega), cond_false, decide_eq_true e]
        · have e : rtext (-T) = [45] ++ rtext T := rtext_neg hpos
          rw [decide_eq_true e, cond_true]
  · simp only [if_neg hc, List.getElem?_cons_zero, List.getElem?_cons_succ, asStr_str, asInt_int, Option.bind_some, txt_beq, decide_true, Bool.not_true, cond_false, show ((120 : Int) != 120) = false from rfl, show ((120 : Int) != 0) = true from rfl, cond_true]

theorem q_loop (hprice : -100000 ≤ x4 ∧ x4 ≤ 100000) (few : P.length ≤ 256 ∧ ∀ r, r ∈ P → Few r) (hq : q.length ≤ 256) : ∃ n0, ∀ n, n0 ≤ n → ∀ (d i m : Nat), i + d = q.length → d < m → (∀ x, x ∈ q.take i → -100000 ≤ x ∧ x ≤ 100000) →
    noonbelllaw16_ResultSurplus.l11 n [] m [sF s0, iF x1, iF x2, .bool b, iF x4, .list 1 (q.map iF), iF x6, iF x7, .list 1 (P.map rowF), .int .i64 (i : Int)] = some [.bool true] := by
  by_cases hall : ∀ x, x ∈ q → -100000 ≤ x ∧ x ≤ 100000
  · obtain ⟨n0, he⟩ := surp_end (s0 := s0) (x1 := x1) (x2 := x2) (x6 := x6) (x7 := x7) (b := b) ⟨hprice, hall, few, hq⟩
    refine ⟨n0, fun n hn => ?_⟩
    intro d
    induction d with
    | zero =>
      intro i m hi hm ht
      obtain ⟨m, rfl⟩ : ∃ k, m = k + 1 := ⟨m - 1, by omega⟩
      rw [noonbelllaw16_ResultSurplus.l11_eq, List.length_map, decide_eq_false (by omega), cond_false]
      exact he n hn
    | succ d ih =>
      intro i m hi hm ht
      obtain ⟨m, rfl⟩ : ∃ k, m = k + 1 := ⟨m - 1, by omega⟩
      have hil : i < q.length := by omega
      have hx := hall _ (List.getElem_mem hil)
      rw [noonbelllaw16_ResultSurplus.l11_eq, List.length_map, decide_eq_true (by omega), cond_true, ix_nat hil]
      simp only [Option.bind_some, iF_at hil, asInt_int]
      rw [decide_eq_false (by omega), cond_false, decide_eq_false (by omega), cond_false, wrap_succ (by omega)]
      exact ih (i + 1) m (by omega) (by omega) (fun x hx => hall x (List.mem_of_mem_take hx))
  · refine ⟨0, fun n hn => ?_⟩
    intro d
    induction d with
    | zero =>
      intro i m hi hm ht
      rw [List.take_of_length_le (by omega)] at ht
      exact absurd ht hall
    | succ d ih =>
      intro i m hi hm ht
      obtain ⟨m, rfl⟩ : ∃ k, m = k + 1 := ⟨m - 1, by omega⟩
      have hil : i < q.length := by omega
      rw [noonbelllaw16_ResultSurplus.l11_eq, List.length_map, decide_eq_true (by omega), cond_true, ix_nat hil]
      simp only [Option.bind_some, iF_at hil, asInt_int]
      by_cases h1 : q[i] > 100000
      · rw [decide_eq_true h1, cond_true]
      · rw [decide_eq_false h1, cond_false]
        by_cases h2 : q[i] < -100000
        · rw [decide_eq_true h2, cond_true]
        · rw [decide_eq_false h2, cond_false, wrap_succ (by omega)]
          refine ih (i + 1) m (by omega) (by omega) fun x hx => ?_
          rw [List.take_add_one, List.getElem?_eq_getElem hil] at hx
          rcases List.mem_append.1 hx with hx | hx
          · exact ht x hx
          · simp at hx; omega

theorem heavy_loop (hql : q.length ≤ 140737488355328) (hPl : P.length ≤ 140737488355328) (hr : ∀ r, r ∈ P → r.length ≤ 140737488355328) : ∃ n0, ∀ n, n0 ≤ n → ∀ (d i m v : Nat), i + d = P.length → d < m → v ≤ 1000000000000000 → (v ≤ 256 → q.length + i ≤ v ∧ ∀ r, r ∈ P.take i → Few r) →
    noonbelllaw16_ResultSurplus.l3 n [] m [sF s0, iF x1, iF x2, .bool b, iF x4, .list 1 (q.map iF), iF x6, iF x7, .list 1 (P.map rowF), .int .i64 (v : Int), .int .i64 (i : Int)] = some [.bool true] := by
  obtain ⟨n1, hlong⟩ := uniform (Q := fun n r => ∃ w : Nat, evF En n 11 [rowF r] = some [.int .i64 (w : Int)] ∧ w ≤ 1048576 + 256 ∧ (w ≤ 256 → Few r)) P fun r h => by
    obtain ⟨w, ⟨n0, h1⟩, h2, h3⟩ := long_ev (r := r) (by have := hr r h; omega)
    exact ⟨n0, fun n hn => ⟨w, h1 n hn, h2, h3⟩⟩
  have fin : ∃ n0, ∀ n, n0 ≤ n → ∀ (v : Nat), (v ≤ 256 → q.length ≤ 256 ∧ P.length ≤ 256 ∧ ∀ r, r ∈ P → Few r) → (bif (decide ((v : Int) > 256)) then some [.bool true]
     else 
      (bif (decide (x4 > 100000)) then some [.bool true]
       else 
        (bif (decide (x4 < (-100000))) then some [.bool true]
         else noonbelllaw16_ResultSurplus.l11 n [] n [sF s0, iF x1, iF x2, .bool b, iF x4, .list 1 (q.map iF), iF x6, iF x7, .list 1 (P.map rowF), .int .i64 0])) : Res) = some [.bool true] := by
    by_cases hok : (q.length ≤ 256 ∧ P.length ≤ 256 ∧ ∀ r, r ∈ P → Few r) ∧ -100000 ≤ x4 ∧ x4 ≤ 100000
    · obtain ⟨n0, h0⟩ := q_loop (s0 := s0) (x1 := x1) (x2 := x2) (x6 := x6) (x7 := x7) (b := b) hok.2 ⟨hok.1.2.1, hok.1.2.2⟩ hok.1.1
      refine ⟨n0 + 257, fun n hn v hv => ?_⟩
      have := h0 n (by omega) q.length 0 n (by omega) (by have := hok.1.1; omega) (fun x hx => by simp at hx)
      rw [show ((0 : Nat) : Int) = 0 from rfl] at this
      rw [this]
      cases decide ((v : Int) > 256) <;> cases decide (x4 > 100000) <;> cases decide (x4 < (-100000)) <;> rfl
    · refine ⟨0, fun n hn v hv => ?_⟩
      by_cases h1 : v ≤ 256
      · have h2 := hv h1
        have h3 : ¬ (-100000 ≤ x4 ∧ x4 ≤ 100000) := fun q => hok ⟨h2, q⟩
        by_cases h4 : x4 > 100000
        · rw [decide_eq_true h4]
          cases decide ((v : Int) > 256) <;> rfl
        · rw [decide_eq_true (show x4 < -100000 by omega)]
          cases decide ((v : Int) > 256) <;> cases decide (x4 > 100000) <;> rfl
      · rw [decide_eq_true (by omega), cond_true]
  obtain ⟨n2, hfin⟩ := fin
  refine ⟨n1 + n2, fun n hn => ?_⟩
  intro d
  induction d with
  | zero =>
    intro i m v hi hm hv hf
    obtain ⟨m, rfl⟩ : ∃ k, m = k + 1 := ⟨m - 1, by omega⟩
    rw [noonbelllaw16_ResultSurplus.l3_eq, List.length_map, decide_eq_false (by omega), cond_false]
    refine hfin n (by omega) v fun h => ?_
    obtain ⟨f1, f2⟩ := hf h
    rw [List.take_of_length_le (by omega)] at f2
    exact ⟨by omega, by omega, f2⟩
  | succ d ih =>
    intro i m v hi hm hv hf
    obtain ⟨m, rfl⟩ : ∃ k, m = k + 1 := ⟨m - 1, by omega⟩
    have hil : i < P.length := by omega
    rw [noonbelllaw16_ResultSurplus.l3_eq, List.length_map, decide_eq_true (by omega), cond_true]
    by_cases h : v ≤ 256
    · obtain ⟨w, h1, h2, h3⟩ := hlong _ (List.getElem_mem hil) n (by omega)
      rw [decide_eq_true (by omega), cond_true, ix_nat hil, Option.bind_some, rowF_at hil, asLst_list, Option.bind_some, h1]
      simp (disch := omega) only [Option.bind_some, List.getElem?_cons_zero, List.getElem?_cons_succ, asLst_list, asInt_int, asBool_bool, asStr_str, cond_true, cond_false]
      rw [show (1 : Int) = ((1 : Nat) : Int) from rfl, add_i64 (by omega), add_i64 (by omega), add_i64 (by omega)]
      refine ih (i + 1) m (v + (1 + w)) (by omega) (by omega) (by omega) fun hv' => ?_
      obtain ⟨f1, f2⟩ := hf h
      refine ⟨by omega, fun r hr => ?_⟩
      rw [List.take_add_one, List.getElem?_eq_getElem hil] at hr
      rcases List.mem_append.1 hr with hr | hr
      · exact f2 r hr
      · simp at hr; subst hr; exact h3 (by omega)
    · rw [decide_eq_false (by omega), cond_false]
      exact hfin n (by omega) v fun h' => absurd h' h
end

/-- a text, read -/
theorem Fits.txt_inv {x : FV} (h : Fits .str x) : ∃ l : List UInt8, x = sF l ∧ l.length ≤ 140737488351232 := by
  obtain ⟨s, rfl, hs⟩ := h.str_inv
  exact ⟨s.data.toList, rfl, by rw [Array.length_toList]; exact hs⟩

theorem Fits.texts_inv {x : FV} (h : Fits (.lst false 16 [.str]) x) : ∃ r : List (List UInt8), x = rowF r ∧ r.length ≤ 140737488355328 := by
  obtain ⟨l, rfl, hl, _⟩ := h.lst_map sF (R := fun _ => True) fun cs hcs => by
    obtain ⟨y, r, rfl, hy, hr⟩ := hcs.cons_inv
    obtain rfl := hr.nil_inv
    obtain ⟨t, rfl, _⟩ := hy.txt_inv
    exact ⟨t, rfl, trivial⟩
  exact ⟨l, rfl, by omega⟩

theorem surplus_pure (L : List FV) (h : All2 Fits [.str, .int .i64, .int .i64, .bool, .int .i64, .lst false 8 [.int .i64], .int .i64, .int .i64, .lst false 24 [.lst false 16 [.str]]] L) : ∃ n, evF En n 3 L = some [.bool true] := by
  obtain ⟨y1, r1, rfl, h1, h⟩ := h.cons_inv
  obtain ⟨y2, r2, rfl, h2, h⟩ := h.cons_inv
  obtain ⟨y3, r3, rfl, h3, h⟩ := h.cons_inv
  obtain ⟨y4, r4, rfl, h4, h⟩ := h.cons_inv
  obtain ⟨y5, r5, rfl, h5, h⟩ := h.cons_inv
  obtain ⟨y6, r6, rfl, h6, h⟩ := h.cons_inv
  obtain ⟨y7, r7, rfl, h7, h⟩ := h.cons_inv
  obtain ⟨y8, r8, rfl, h8, h⟩ := h.cons_inv
  obtain ⟨y9, r9, rfl, h9, h⟩ := h.cons_inv
  obtain rfl := h.nil_inv
  obtain ⟨s0, rfl, _⟩ := h1.txt_inv
  obtain ⟨x1, rfl, _⟩ := h2.int_inv
  obtain ⟨x2, rfl, _⟩ := h3.int_inv
  obtain ⟨b, rfl⟩ := h4.bool_inv
  obtain ⟨x4, rfl, _⟩ := h5.int_inv
  obtain ⟨q, rfl, hq, _⟩ := h6.lst_map iF (R := fun _ => True) fun cs hcs => by
    obtain ⟨y, r, rfl, hy, hr⟩ := hcs.cons_inv
    obtain rfl := hr.nil_inv
    obtain ⟨z, rfl, _⟩ := hy.int_inv
    exact ⟨z, rfl, trivial⟩
  obtain ⟨x6, rfl, _⟩ := h7.int_inv
  obtain ⟨x7, rfl, _⟩ := h8.int_inv
  obtain ⟨P, rfl, hP, hr⟩ := h9.lst_map rowF (R := fun r => r.length ≤ 140737488355328) fun cs hcs => by
    obtain ⟨y, r, rfl, hy, hr⟩ := hcs.cons_inv
    obtain rfl := hr.nil_inv
    obtain ⟨t, rfl, ht⟩ := hy.texts_inv
    exact ⟨t, rfl, ht⟩
  obtain ⟨n0, h0⟩ := heavy_loop (s0 := s0) (x1 := x1) (x2 := x2) (x4 := x4) (x6 := x6) (x7 := x7) (b := b) (q := q) (P := P) (by omega) (by omega) hr
  refine ⟨n0 + P.length + 1 + 1, ?_⟩
  have := h0 (n0 + P.length + 1) (by omega) P.length 0 (n0 + P.length + 1) q.length (by omega) (by omega) (by omega) fun hv => ⟨by omega, fun r hr => by simp at hr⟩
  rw [show ((0 : Nat) : Int) = 0 from rfl] at this
  show evF En (n0 + P.length + 1 + 1) 3 [sF s0, iF x1, iF x2, .bool b, iF x4, .list 1 (q.map iF), iF x6, iF x7, .list 1 (P.map rowF)] = _
  rw [noonbelllaw16_ResultSurplus_eq, List.length_map]
  exact this

end Rf
end
