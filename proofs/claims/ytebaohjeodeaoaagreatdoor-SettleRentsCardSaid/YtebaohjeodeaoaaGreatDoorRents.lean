import Derived.Test.YtebaohjeodeaoaaGreatDoorRefR
import Derived.Test.YtebaohjeodeaoaaGreatDoorEqRents

/- SettleRents: a line's rent is its flow times what the price rises along it. -/
set_option linter.unusedSimpArgs false
set_option linter.unusedVariables false
set_option maxHeartbeats 2000000
namespace Rf
open Go

abbrev rowT (r : List (List UInt8)) : FV := .list 1 (r.map sF)

theorem rowT_at {P : List (List (List UInt8))} {i : Nat} (h : i < P.length) : at' (P.map rowT) i 0 = some (.list 1 (P[i].map sF)) := by rw [at_map, List.getElem?_eq_getElem h]; rfl

theorem Bd_small {z : Int} (h1 : -100000 ≤ z) (h2 : z ≤ 100000) : Bd 1024 (z : Rat) := by
  refine (Bd.int (k := 17) ?_ (by omega)).mono (by omega)
  have : (2 : Nat) ^ 17 = 131072 := rfl
  omega

theorem Bd_big {z : Int} (h1 : -100000000000 ≤ z) (h2 : z ≤ 100000000000) : Bd 64 (z : Rat) := by
  refine (Bd.int (k := 40) ?_ (by omega)).mono (by omega)
  have : (2 : Nat) ^ 40 = 1099511627776 := rfl
  omega

theorem pr_int (z : Int) : pr (rtext (z : Rat)) = some (z : Rat) := pr_some.2 rfl
theorem len_big {z : Int} (h1 : -100000000000 ≤ z) (h2 : z ≤ 100000000000) : (rtext (z : Rat)).length ≤ 132 := by have := (Bd_big h1 h2).len; omega

/-- the numbers of a call -/
structure ROk (A B C : Nat → Int) : Prop where
  a : ∀ i, -32768 ≤ A i ∧ A i ≤ 32767
  b : ∀ i, -32768 ≤ B i ∧ B i ≤ 32767
  c : ∀ i, -32768 ≤ C i ∧ C i ≤ 32767

def uRow (A : Nat → Int) (i : Nat) : List (List UInt8) := [[49, 47, 50], rtext (A i : Rat)]
def vRow (B C : Nat → Int) (i : Nat) : List (List UInt8) := [rtext (B i : Rat), rtext (C i : Rat)]
def uRows (A : Nat → Int) (n : Nat) : List (List (List UInt8)) := (List.range n).map (uRow A)
def vRows (B C : Nat → Int) (n : Nat) : List (List (List UInt8)) := (List.range n).map (vRow B C)
def rsum (A B C : Nat → Int) : Nat → Int
  | 0 => 0
  | i + 1 => rsum A B C i + A i * (C i - B i)

variable {A B C : Nat → Int}

theorem prod_bd (h : ROk A B C) (i : Nat) : -4294967296 ≤ A i * (C i - B i) ∧ A i * (C i - B i) ≤ 4294967296 := by
  have ha := h.a i
  have hb := h.b i
  have hc := h.c i
  have h1 : (A i * (C i - B i)).natAbs ≤ 32768 * 65536 := by
    rw [Int.natAbs_mul]
    exact Nat.mul_le_mul (by omega) (by omega)
  omega

theorem rsum_bd (h : ROk A B C) : ∀ i : Nat, i ≤ 8 → -4294967296 * (i : Int) ≤ rsum A B C i ∧ rsum A B C i ≤ 4294967296 * (i : Int) := by
  intro i
  induction i with
  | zero => intro _; exact ⟨by simp [rsum], by simp [rsum]⟩
  | succ i ih =>
    intro hi
    have := ih (by omega)
    have := prod_bd h i
    rw [rsum]
    omega

theorem uRows_succ (A : Nat → Int) (i : Nat) : (uRows A (i + 1)).map rowT = (uRows A i).map rowT ++ [.list 1 [sF [49, 47, 50], sF (rtext (A i : Rat))]] := by
  rw [uRows, List.range_succ, List.map_append, List.map_append]; rfl
theorem vRows_succ (B C : Nat → Int) (i : Nat) : (vRows B C (i + 1)).map rowT = (vRows B C i).map rowT ++ [.list 1 [sF (rtext (B i : Rat)), sF (rtext (C i : Rat))]] := by
  rw [vRows, List.range_succ, List.map_append, List.map_append]; rfl
theorem uRows_len (A : Nat → Int) (i : Nat) : (uRows A i).length = i := by simp [uRows]
theorem vRows_len (B C : Nat → Int) (i : Nat) : (vRows B C i).length = i := by simp [vRows]
theorem uRows_get {n i : Nat} (h : i < (uRows A n).length) : (uRows A n)[i] = uRow A i := by simp [uRows]
theorem vRows_get {n i : Nat} (h : i < (vRows B C n).length) : (vRows B C n)[i] = vRow B C i := by simp [vRows]

section
variable {l0 l1 l2 l3 : List FV} {s4 s5 : ByteArray} {b6 : Bool} {x7 : Int}

theorem priced_ev {V : List (List (List UInt8))} {k j : Nat} {z : Int} {t : List (List UInt8)} (hk : k < V.length) (hV : V[k] = t) (hj : j < t.length) (hz : t[j] = rtext (z : Rat)) (hz1 : -100000 ≤ z) (hz2 : z ≤ 100000) :
    Ev En 94 [.list 1 l0, .list 1 l1, .list 1 l2, .list 1 (V.map rowT), .str s4, .str s5, .bool b6, .int .i64 x7, .int .i64 (k : Int), .int .i64 (j : Int)] [zl ((z : Rat)).num, zb ((z : Rat)).num, nL ((z : Rat)).den, .bool false, .bool true] := by
  obtain ⟨n1, h1⟩ := rparse_ev (pr_int z) (by have := len_big (z := z) (by omega) (by omega); omega)
  refine Ev.of n1 fun n hn => ?_
  have hlt : ¬ ((j : Int) ≥ (t.length : Int)) := by omega
  rw [settle_priced_eq, decide_eq_false (by omega), cond_false, List.length_map, decide_eq_false (by omega), cond_false, decide_eq_false (by omega), cond_false, ix_nat hk]
  simp only [Option.bind_some, rowT_at hk, asLst_list, List.length_map, hV]
  rw [decide_eq_false hlt, cond_false, ix_nat hj]
  simp only [Option.bind_some, sF_at hj, asStr_str, hz]
  try simp (disch := omega) only [h1, Option.bind_some, List.getElem?_cons_zero, List.getElem?_cons_succ, asLst_list, asInt_int, asBool_bool, asStr_str, cond_true, cond_false]
  rfl

theorem flow_ev (h : ROk A B C) {N k : Nat} (hk : k < N) (hN : N ≤ 8) :
    Ev En 93 [.int .i64 (k : Int), .list 1 ((uRow A k).map sF), .int .i64 1, .list 1 l0, .list 1 l1, .list 1 l2, .list 1 ((vRows B C N).map rowT), .str s4, .str s5, .bool b6, .int .i64 x7, .int .i64 0, .int .i64 1, .int .i64 5]
      [.int .i64 1, .list 1 l0, .list 1 l1, .list 1 l2, .list 1 ((vRows B C N).map rowT), .str s4, .str s5, .bool b6, .int .i64 x7, .int .i64 0, .int .i64 1, .int .i64 5, zl ((A k : Rat) * ((C k : Rat) - (B k : Rat))).num, zb ((A k : Rat) * ((C k : Rat) - (B k : Rat))).num, nL ((A k : Rat) * ((C k : Rat) - (B k : Rat))).den, .bool false, .bool true] := by
  have ha := h.a k
  have hb := h.b k
  have hc := h.c k
  have hkv : k < (vRows B C N).length := by rw [vRows_len]; exact hk
  obtain ⟨n1, h1⟩ := rparse_ev (pr_int (A k)) (by have := len_big (z := A k) (by omega) (by omega); omega)
  obtain ⟨n2, h2⟩ := priced_ev (l0 := l0) (l1 := l1) (l2 := l2) (s4 := s4) (s5 := s5) (b6 := b6) (x7 := x7) (V := vRows B C N) (k := k) (j := 0) (z := B k) hkv (vRows_get hkv) (by simp [vRow]) rfl (by omega) (by omega)
  obtain ⟨n3, h3⟩ := priced_ev (l0 := l0) (l1 := l1) (l2 := l2) (s4 := s4) (s5 := s5) (b6 := b6) (x7 := x7) (V := vRows B C N) (k := k) (j := 1) (z := C k) hkv (vRows_get hkv) (by simp [vRow]) rfl (by omega) (by omega)
  have ba : Bd 1024 (A k : Rat) := Bd_small (by omega) (by omega)
  have bb : Bd 1024 (B k : Rat) := Bd_small (by omega) (by omega)
  have bc : Bd 1024 (C k : Rat) := Bd_small (by omega) (by omega)
  obtain ⟨n4, h4⟩ := rsub_ev (k := 1024) (by omega) (by omega) bc bb (dn_den _) (dn_den _)
  obtain ⟨n5, h5⟩ := rmul_ev (k := 2049) (by omega) (by omega) (ba.mono (show 1024 ≤ 2049 by omega)) ((bc.sub bb).mono (by omega)) (dn_den _) (dn_den _)
  refine Ev.of (n1 + n2 + n3 + n4 + n5) fun n hn => ?_
  have g2 := h2 n (by omega)
  have g3 := h3 n (by omega)
  rw [show ((0 : Nat) : Int) = 0 from rfl] at g2
  rw [show ((1 : Nat) : Int) = 1 from rfl] at g3
  rw [settle_rent_1_eq, List.length_map]
  rw [decide_eq_false (by simp [uRow]), cond_false, show ix 1 (uRow A k).length = some 1 from rfl, Option.bind_some, sF_at (by simp [uRow]), asStr_str, Option.bind_some, show (uRow A k)[1]'(by simp [uRow]) = rtext (A k : Rat) from rfl]
  try simp (disch := omega) only [h1, Option.bind_some, List.getElem?_cons_zero, List.getElem?_cons_succ, asLst_list, asInt_int, asBool_bool, asStr_str, cond_true, cond_false]
  try simp (disch := omega) only [g2, Option.bind_some, List.getElem?_cons_zero, List.getElem?_cons_succ, asLst_list, asInt_int, asBool_bool, asStr_str, cond_true, cond_false]
  try simp (disch := omega) only [g3, Option.bind_some, List.getElem?_cons_zero, List.getElem?_cons_succ, asLst_list, asInt_int, asBool_bool, asStr_str, cond_true, cond_false]
  try simp (disch := omega) only [h4, Option.bind_some, List.getElem?_cons_zero, List.getElem?_cons_succ, asLst_list, asInt_int, asBool_bool, asStr_str, cond_true, cond_false]
  try simp (disch := omega) only [h5, Option.bind_some, List.getElem?_cons_zero, List.getElem?_cons_succ, asLst_list, asInt_int, asBool_bool, asStr_str, cond_true, cond_false]
  rfl

theorem sum_loop (h : ROk A B C) {N : Nat} (hN : N ≤ 8) {m0 m2 : List FV} {b1 b3 : Bool} : ∀ (d i : Nat) (acc : Rat) (da : Nat), i + d = N → Bd (1 + 4099 * i) acc → dn da = acc.den → acc = (rsum A B C i : Rat) → ∃ n0 d', dn d' = ((rsum A B C N : Int) : Rat).den ∧ ∀ n m, n0 ≤ n → n0 ≤ m →
    settle_summed_string.l3 n [] m [.int .i64 1, .list 1 l0, .list 1 l1, .list 1 l2, .list 1 ((vRows B C N).map rowT), .str s4, .str s5, .bool b6, .int .i64 x7, .int .i64 0, .int .i64 1, .int .i64 5, .list 1 m0, .bool b1, .list 1 m2, .bool b3, zl (acc).num, zb (acc).num, nL (da), .bool false, .list 1 ((uRows A N).map rowT), .int .i64 (N : Int), .int .i64 (i : Int)]
      = some [.int .i64 1, .list 1 l0, .list 1 l1, .list 1 l2, .list 1 ((vRows B C N).map rowT), .str s4, .str s5, .bool b6, .int .i64 x7, .int .i64 0, .int .i64 1, .int .i64 5, zl (((rsum A B C N : Int) : Rat)).num, zb (((rsum A B C N : Int) : Rat)).num, nL (d'), .bool false, .bool true] := by
  intro d
  induction d with
  | zero =>
    intro i acc da hi hb hd hacc
    obtain rfl : i = N := by omega
    subst hacc
    refine ⟨1, da, hd, fun n m hn hm => ?_⟩
    obtain ⟨m, rfl⟩ : ∃ k, m = k + 1 := ⟨m - 1, by omega⟩
    rw [settle_summed_string.l3_eq, decide_eq_false (by omega), cond_false]
  | succ d ih =>
    intro i acc da hi hb hd hacc
    have hil : i < N := by omega
    have hiu : i < (uRows A N).length := by rw [uRows_len]; exact hil
    have ha := h.a i
    have hbb := h.b i
    have hc := h.c i
    have ba : Bd 1024 (A i : Rat) := Bd_small (by omega) (by omega)
    have bb : Bd 1024 (B i : Rat) := Bd_small (by omega) (by omega)
    have bc : Bd 1024 (C i : Rat) := Bd_small (by omega) (by omega)
    have bm : Bd 4098 ((A i : Rat) * ((C i : Rat) - (B i : Rat))) := ((ba.mono (show 1024 ≤ 2049 by omega)).mul ((bc.sub bb).mono (show 1024 + 1024 + 1 ≤ 2049 by omega))).mono (by omega)
    have bn : Bd (1 + 4099 * (i + 1)) (acc + (A i : Rat) * ((C i : Rat) - (B i : Rat))) := (hb.add bm).mono (by omega)
    have en : acc + (A i : Rat) * ((C i : Rat) - (B i : Rat)) = (rsum A B C (i + 1) : Rat) := by
      rw [hacc, rsum, Rat.intCast_add, Rat.intCast_mul, Rat.intCast_sub]
    obtain ⟨n1, h1⟩ := flow_ev (l0 := l0) (l1 := l1) (l2 := l2) (s4 := s4) (s5 := s5) (b6 := b6) (x7 := x7) h hil hN
    obtain ⟨n2, h2⟩ := radd_ev (k := 1 + 4099 * i + 4098) (by omega) (by omega) (hb.mono (by omega)) (bm.mono (by omega)) hd (dn_den _)
    obtain ⟨n3, d', hd', h3⟩ := ih (i + 1) _ _ (by omega) bn (dn_den _) en
    refine ⟨n1 + n2 + n3 + 1, d', hd', fun n m hn hm => ?_⟩
    obtain ⟨m, rfl⟩ : ∃ k, m = k + 1 := ⟨m - 1, by omega⟩
    rw [settle_summed_string.l3_eq, decide_eq_true (by omega), cond_true, List.length_map, ix_nat hiu, Option.bind_some, rowT_at hiu, asLst_list, Option.bind_some, uRows_get hiu]
    try simp (disch := omega) only [h1, Option.bind_some, List.getElem?_cons_zero, List.getElem?_cons_succ, asLst_list, asInt_int, asBool_bool, asStr_str, cond_true, cond_false]
    try simp (disch := omega) only [Bool.not_true, h2, Option.bind_some, List.getElem?_cons_zero, List.getElem?_cons_succ, asLst_list, asInt_int, asBool_bool, asStr_str, cond_true, cond_false]
    rw [wrap_succ (by omega)]
    exact h3 n m (by omega) (by omega)

theorem rent_ev (h : ROk A B C) {N : Nat} (hN : N ≤ 8) : ∃ d', dn d' = ((rsum A B C N : Int) : Rat).den ∧
    Ev En 56 [.int .i64 0, .int .i64 1, .int .i64 5, .list 1 l0, .list 1 l1, .list 1 ((uRows A N).map rowT), .list 1 ((vRows B C N).map rowT), .str s4, .str s5, .bool b6, .int .i64 x7, .int .i64 1]
      [zl (((rsum A B C N : Int) : Rat)).num, zb (((rsum A B C N : Int) : Rat)).num, nL (d'), .bool false, .bool true] := by
  obtain ⟨n1, d', hd', h1⟩ := sum_loop (l0 := l0) (l1 := l1) (l2 := (uRows A N).map rowT) (s4 := s4) (s5 := s5) (b6 := b6) (x7 := x7) (m0 := []) (m2 := []) (b1 := false) (b3 := false) h hN N 0 0 0 (by omega) ⟨by decide, by decide⟩ rfl rfl
  refine ⟨d', hd', Ev.of (n1 + 1) fun n hn => ?_⟩
  obtain ⟨n, rfl⟩ : ∃ k, n = k + 1 := ⟨n - 1, by omega⟩
  have g : evF En (n + 1) 92 [.list 1 ((uRows A N).map rowT), .int .i64 1, .list 1 l0, .list 1 l1, .list 1 ((uRows A N).map rowT), .list 1 ((vRows B C N).map rowT), .str s4, .str s5, .bool b6, .int .i64 x7,   .int .i64 0, .int .i64 1, .int .i64 5] = some [.int .i64 1, .list 1 l0, .list 1 l1, .list 1 ((uRows A N).map rowT), .list 1 ((vRows B C N).map rowT), .str s4, .str s5, .bool b6, .int .i64 x7, .int .i64 0, .int .i64 1, .int .i64 5, zl (((rsum A B C N : Int) : Rat)).num, zb (((rsum A B C N : Int) : Rat)).num, nL (d'), .bool false, .bool true] := by
    rw [settle_summed_string_eq, List.length_map, uRows_len]
    have q := h1 n n (by omega) (by omega)
    rw [show zl (Rat.num 0) = .list 1 [] from (zl_nat 0).trans nL_zero, show zb (Rat.num 0) = .bool false from zb_nat 0, nL_zero] at q
    exact q
  rw [settle_rent_eq, g]
  rfl

theorem told_ev (h : ROk A B C) {N d' : Nat} (hN : N ≤ 8) (hd : dn d' = ((rsum A B C N : Int) : Rat).den) :
    Ev En 55 [zl (((rsum A B C N : Int) : Rat)).num, zb (((rsum A B C N : Int) : Rat)).num, nL (d'), .bool false, .bool true] [sF (rtext (rsum A B C N : Rat)), .int .i64 0] := by
  have hs := rsum_bd h N hN
  obtain ⟨n1, h1⟩ := rtext_ev (k := 64) (by omega) (by omega) (Bd_big (z := rsum A B C N) (by omega) (by omega)) hd
  refine Ev.of n1 fun n hn => ?_
  rw [settle_told_eq, Bool.not_true, cond_false]
  simp (disch := omega) only [h1, Option.bind_some, List.getElem?_cons_zero, List.getElem?_cons_succ, asLst_list, asInt_int, asBool_bool, asStr_str, cond_true, cond_false]

theorem Rent_ok (h : ROk A B C) {N : Nat} (hN : N ≤ 8) {x0 x1 x3 x4 : Int} {E : List FV} (hE : E = [.agg [.int .i64 1, .int .i64 0, .int .i64 5], .agg [.int .i64 0, .int .i64 1, .int .i64 5]]) :
    Ev En 16 [.int .i64 x0, .int .i64 x1, .list 3 E, .int .i64 x3, .int .i64 x4, .list 1 l0, .list 1 l1, .list 1 ((uRows A N).map rowT), .list 1 ((vRows B C N).map rowT), .str s4, .str s5, .bool b6, .int .i64 x7, .int .i64 1] [sF (rtext (rsum A B C N : Rat)), .int .i64 0] := by
  subst hE
  obtain ⟨d', hd, n1, h1⟩ := rent_ev (l0 := l0) (l1 := l1) (s4 := s4) (s5 := s5) (b6 := b6) (x7 := x7) h hN
  obtain ⟨n2, h2⟩ := told_ev h hN hd
  refine Ev.of (n1 + n2) fun n hn => ?_
  rw [settle_Rent_eq, show decide ((1 : Int) < 0) = false from rfl, cond_false, show decide ((1 : Int) ≥ (([FV.agg [.int .i64 1, .int .i64 0, .int .i64 5], .agg [.int .i64 0, .int .i64 1, .int .i64 5]] : List FV).length : Int)) = false from rfl, cond_false]
  show ((evF En n 56 [.int .i64 0, .int .i64 1, .int .i64 5, .list 1 l0, .list 1 l1, .list 1 ((uRows A N).map rowT), .list 1 ((vRows B C N).map rowT), .str s4, .str s5, .bool b6, .int .i64 x7, .int .i64 1]).bind _) = _
  rw [h1 n (by omega), Option.bind_some]
  try simp (disch := omega) only [h2, Option.bind_some, List.getElem?_cons_zero, List.getElem?_cons_succ, asLst_list, asInt_int, asBool_bool, asStr_str, cond_true, cond_false]

theorem Rent_no {n : Nat} {x0 x1 x3 x4 : Int} {E l5 l6 : List FV} (hE : E.length = 2) :
    evF En (n + 1) 16 [.int .i64 x0, .int .i64 x1, .list 3 E, .int .i64 x3, .int .i64 x4, .list 1 l0, .list 1 l1, .list 1 l5, .list 1 l6, .str s4, .str s5, .bool b6, .int .i64 x7, .int .i64 2] = some [.str { data := #[] }, .int .i64 1] := by
  rw [settle_Rent_eq, show decide ((2 : Int) < 0) = false from rfl, cond_false, hE, show decide ((2 : Int) ≥ ((2 : Nat) : Int)) = true from rfl, cond_true]
end

theorem elems1 (x z : FV) : elemsOf 1 z [(0, x)] = [x] := rfl
theorem elems2 (x y z : FV) : elemsOf 2 z [(0, x), (1, y)] = [x, y] := rfl
abbrev jF (z : Int) : FV := .int .i16 z
theorem jF_at {q : List Int} {i : Nat} (h : i < q.length) : at' (q.map jF) i 0 = some (.int .i16 q[i]) := by rw [at_map, List.getElem?_eq_getElem h]; rfl

theorem wtxt2_ev {z : Int} (h1 : -100000000000 ≤ z) (h2 : z ≤ 100000000000) : ∃ n0, ∀ n, n0 ≤ n → evF En n 14 [.int .i64 z] = some [zb ((z : Rat)).num, wl ((z : Rat)).num, .bool false, wL ((z : Rat)).den] ∧ evF En n 15 [zb ((z : Rat)).num, wl ((z : Rat)).num, .bool false, wL ((z : Rat)).den] = some [sF (rtext (z : Rat))] := by
  obtain ⟨n1, h1'⟩ := wrof_ev (z := z) (by omega) (by omega)
  obtain ⟨n2, h2'⟩ := wrtext_ev (k := 64) (by omega) (Bd_big h1 h2) (dn_den _)
  exact ⟨n1 + n2, fun n hn => ⟨h1' n (by omega), h2' n (by omega)⟩⟩

section
variable {a b c : List Int}

theorem law_loop (ha : ∀ x, x ∈ a → -32768 ≤ x ∧ x ≤ 32767) (hb : ∀ x, x ∈ b → -32768 ≤ x ∧ x ≤ 32767) (hc : ∀ x, x ∈ c → -32768 ≤ x ∧ x ≤ 32767) (h8 : a.length ≤ 8) (hab : a.length ≤ b.length) (hac : a.length ≤ c.length)
    {E : List FV} (hE : E = [.agg [.int .i64 1, .int .i64 0, .int .i64 5], .agg [.int .i64 0, .int .i64 1, .int .i64 5]]) (hA : A = fun i => a.getD i 0) (hB : B = fun i => b.getD i 0) (hC : C = fun i => c.getD i 0) (h : ROk A B C) :
    ∀ (d i : Nat), i + d = a.length → ∃ n0, ∀ n m, n0 ≤ n → n0 ≤ m →
    noonbelllaw20_SettleRents.l8 n [] m [.int .i64 2, .int .i64 (a.length : Int), .list 3 E, .int .i64 0, .int .i64 0, .list 1 [], .list 1 [], .list 1 ((uRows A i).map rowT), .list 1 ((vRows B C i).map rowT), .str { data := #[] }, .str { data := #[] }, .bool false, .int .i64 0, .list 1 (a.map jF), .list 1 (b.map jF), .list 1 (c.map jF), .int .i64 (rsum A B C i), .int .i64 (i : Int)] = some [.bool true] := by
  intro d
  induction d with
  | zero =>
    intro i hi
    obtain rfl : i = a.length := by omega
    have hs := rsum_bd h a.length h8
    obtain ⟨n1, h1⟩ := Rent_ok (l0 := []) (l1 := []) (s4 := { data := #[] }) (s5 := { data := #[] }) (b6 := false) (x7 := 0) (x0 := 2) (x1 := (a.length : Int)) (x3 := 0) (x4 := 0) h h8 hE
    obtain ⟨n2, h2⟩ := wtxt2_ev (z := rsum A B C a.length) (by omega) (by omega)
    refine ⟨n1 + n2 + 1, fun n m hn hm => ?_⟩
    obtain ⟨m, rfl⟩ : ∃ k, m = k + 1 := ⟨m - 1, by omega⟩
    obtain ⟨k, rfl⟩ : ∃ k, n = k + 1 := ⟨n - 1, by omega⟩
    have g0 := h1 (k + 1) (by omega)
    have g1 := Rent_no (n := k) (l0 := []) (l1 := []) (s4 := { data := #[] }) (s5 := { data := #[] }) (b6 := false) (x7 := 0) (x0 := 2) (x1 := (a.length : Int)) (x3 := 0) (x4 := 0) (E := E) (l5 := (uRows A a.length).map rowT) (l6 := (vRows B C a.length).map rowT) (by rw [hE]; rfl)
    obtain ⟨g2, g3⟩ := h2 (k + 1) (by omega)
    rw [noonbelllaw20_SettleRents.l8_eq, List.length_map, decide_eq_false (by omega), cond_false]
    rw [g0, g1]
    try simp (disch := omega) only [show ((0 : Int) == 0) = true from rfl, show ((1 : Int) == 1) = true from rfl, Option.bind_some, List.getElem?_cons_zero, List.getElem?_cons_succ, asLst_list, asInt_int, asBool_bool, asStr_str, cond_true, cond_false]
    try simp (disch := omega) only [g2, Option.bind_some, List.getElem?_cons_zero, List.getElem?_cons_succ, asLst_list, asInt_int, asBool_bool, asStr_str, cond_true, cond_false]
    try simp (disch := omega) only [g3, Option.bind_some, List.getElem?_cons_zero, List.getElem?_cons_succ, asLst_list, asInt_int, asBool_bool, asStr_str, cond_true, cond_false]
    simp
  | succ d ih =>
    intro i hi
    have hia : i < a.length := by omega
    have hib : i < b.length := by omega
    have hic : i < c.length := by omega
    have ea : a[i] = A i := by rw [hA]; simp [List.getD_eq_getElem?_getD, List.getElem?_eq_getElem hia]
    have eb : b[i] = B i := by rw [hB]; simp [List.getD_eq_getElem?_getD, List.getElem?_eq_getElem hib]
    have ec : c[i] = C i := by rw [hC]; simp [List.getD_eq_getElem?_getD, List.getElem?_eq_getElem hic]
    have ba := h.a i
    have bb := h.b i
    have bc := h.c i
    have hs := rsum_bd h i (by omega)
    have hp := prod_bd h i
    obtain ⟨n1, h1⟩ := wtxt2_ev (z := A i) (by omega) (by omega)
    obtain ⟨n2, h2⟩ := wtxt2_ev (z := B i) (by omega) (by omega)
    obtain ⟨n3, h3⟩ := wtxt2_ev (z := C i) (by omega) (by omega)
    obtain ⟨n4, h4⟩ := ih (i + 1) (by omega)
    refine ⟨n1 + n2 + n3 + n4 + 1, fun n m hn hm => ?_⟩
    obtain ⟨m, rfl⟩ : ∃ k, m = k + 1 := ⟨m - 1, by omega⟩
    obtain ⟨f1, t1⟩ := h1 n (by omega)
    obtain ⟨f2, t2⟩ := h2 n (by omega)
    obtain ⟨f3, t3⟩ := h3 n (by omega)
    have hle : Nat.ble (i + (0 + 1)) 5864062014805 = true := Nat.ble_eq_true_of_le (by omega)
    rw [noonbelllaw20_SettleRents.l8_eq]
    simp only [List.length_map, elems1, elems2, uRows_len, vRows_len, List.length_cons, List.length_nil, hle, cond_true]
    rw [decide_eq_true (by omega), cond_true]
    simp only [ix_nat hia, ix_nat hib, ix_nat hic, Option.bind_some, jF_at hia, jF_at hib, jF_at hic, asInt_int, ea, eb, ec, wrap64_id (show -9223372036854775808 ≤ A i by omega) (by omega), wrap64_id (show -9223372036854775808 ≤ B i by omega) (by omega), wrap64_id (show -9223372036854775808 ≤ C i by omega) (by omega), wrap64_id (show -9223372036854775808 ≤ C i - B i by omega) (by omega), wrap64_id (show -9223372036854775808 ≤ A i * (C i - B i) by omega) (by omega), wrap64_id (show -9223372036854775808 ≤ rsum A B C i + A i * (C i - B i) by omega) (by omega)]
    try simp (disch := omega) only [f1, Option.bind_some, List.getElem?_cons_zero, List.getElem?_cons_succ, asLst_list, asInt_int, asBool_bool, asStr_str, cond_true, cond_false]
    try simp (disch := omega) only [t1, Option.bind_some, List.getElem?_cons_zero, List.getElem?_cons_succ, asLst_list, asInt_int, asBool_bool, asStr_str, cond_true, cond_false]
    try simp (disch := omega) only [f2, Option.bind_some, List.getElem?_cons_zero, List.getElem?_cons_succ, asLst_list, asInt_int, asBool_bool, asStr_str, cond_true, cond_false]
    try simp (disch := omega) only [t2, Option.bind_some, List.getElem?_cons_zero, List.getElem?_cons_succ, asLst_list, asInt_int, asBool_bool, asStr_str, cond_true, cond_false]
    try simp (disch := omega) only [f3, Option.bind_some, List.getElem?_cons_zero, List.getElem?_cons_succ, asLst_list, asInt_int, asBool_bool, asStr_str, cond_true, cond_false]
    try simp (disch := omega) only [t3, Option.bind_some, List.getElem?_cons_zero, List.getElem?_cons_succ, asLst_list, asInt_int, asBool_bool, asStr_str, cond_true, cond_false]
    have := h4 n m (by omega) (by omega)
    rw [uRows_succ, vRows_succ, rsum] at this
    rw [wrap_succ (by omega)]
    exact this

theorem rents_at (ha : ∀ x, x ∈ a → -32768 ≤ x ∧ x ≤ 32767) (hb : ∀ x, x ∈ b → -32768 ≤ x ∧ x ≤ 32767) (hc : ∀ x, x ∈ c → -32768 ≤ x ∧ x ≤ 32767) :
    ∃ n, evF En n 4 [.list 1 (a.map jF), .list 1 (b.map jF), .list 1 (c.map jF)] = some [.bool true] := by
  by_cases h : a.length ≤ 8 ∧ a.length ≤ b.length ∧ a.length ≤ c.length
  · have get : ∀ (q : List Int), (∀ x, x ∈ q → -32768 ≤ x ∧ x ≤ 32767) → ∀ i, -32768 ≤ q.getD i 0 ∧ q.getD i 0 ≤ 32767 := fun q hq i => by
      rw [List.getD_eq_getElem?_getD]
      cases e : q[i]? with
      | none => simp
      | some x => exact hq x (List.mem_of_getElem? e)
    obtain ⟨n, hn⟩ := law_loop ha hb hc h.1 h.2.1 h.2.2 rfl rfl rfl rfl ⟨get a ha, get b hb, get c hc⟩ a.length 0 (by omega)
    refine ⟨n + 1, ?_⟩
    rw [noonbelllaw20_SettleRents_eq]
    simp only [List.length_map]
    rw [decide_eq_false (by omega), cond_false, decide_eq_false (by omega), cond_false, decide_eq_false (by omega), cond_false]
    exact hn n n (Nat.le_refl _) (Nat.le_refl _)
  · refine ⟨1, ?_⟩
    rw [noonbelllaw20_SettleRents_eq]
    simp only [List.length_map]
    by_cases h1 : (a.length : Int) > 8
    · rw [decide_eq_true h1, cond_true]
    · rw [decide_eq_false h1, cond_false]
      by_cases h2 : (b.length : Int) < a.length
      · rw [decide_eq_true h2, cond_true]
      · rw [decide_eq_false h2, cond_false, decide_eq_true (by omega), cond_true]
end

theorem rents_pure (L : List FV) (h : All2 Fits [.lst false 2 [.int .i16], .lst false 2 [.int .i16], .lst false 2 [.int .i16]] L) : ∃ n, evF En n 4 L = some [.bool true] := by
  obtain ⟨y1, r1, rfl, h1, h⟩ := h.cons_inv
  obtain ⟨y2, r2, rfl, h2, h⟩ := h.cons_inv
  obtain ⟨y3, r3, rfl, h3, h⟩ := h.cons_inv
  obtain rfl := h.nil_inv
  have rd : ∀ cs, All2 Fits [.int .i16] cs → ∃ z : Int, mkEl false cs = jF z ∧ (-32768 ≤ z ∧ z ≤ 32767) := fun cs hcs => by
    obtain ⟨y, r, rfl, hy, hr⟩ := hcs.cons_inv
    obtain rfl := hr.nil_inv
    obtain ⟨z, rfl, b1, b2⟩ := hy.int_inv
    exact ⟨z, rfl, b1, b2⟩
  obtain ⟨a, rfl, _, ha⟩ := h1.lst_map jF rd
  obtain ⟨b, rfl, _, hb⟩ := h2.lst_map jF rd
  obtain ⟨c, rfl, _, hc⟩ := h3.lst_map jF rd
  exact rents_at ha hb hc

end Rf
